/- Texts of mine, joined: what the functions compute that the law reaches, each under its own conditions, and plain lemmas on it. -/
import Derived.Test.YtdejljgoebcmpaaDoorProg
import Derived.Test.YtdejljgoebcmpaaDoorJOld3
import Derived.Deep.DeepCutAuto
import Derived.Deep.AppendLies
import Derived.Test.YtdejljgoebcmpaaDoorJOld2
/- oldfile.get: what it computes; the memory that it holds. -/
namespace Go.Proofs.YtdejljgoebcmpaaDoor
open Go.RowKit

namespace Pl
end Pl
theorem tabs_upd {w w' : World} {S : Nat → Prop} (h : Lib.Utf8Tabs 0 1 w) (hu : Upd S w w') (h0 : ¬ S 0) (h1 : ¬ S 1) : Lib.Utf8Tabs 0 1 w' :=
  ⟨fun c hc => (World.cell?_of_block (hu.block _ (World.block_lt_of_cell? w _ (h.1 c hc)) (by first | exact h0 | exact h1))).trans (h.1 c hc),
   fun i hi => ⟨(World.cell?_of_block (hu.block _ (World.block_lt_of_cell? w _ (h.2 i hi).1) (by first | exact h0 | exact h1))).trans (h.2 i hi).1, (World.cell?_of_block (hu.block _ (World.block_lt_of_cell? w _ (h.2 i hi).2) (by first | exact h0 | exact h1))).trans (h.2 i hi).2⟩⟩
namespace Pl
/-- What is read so far, where one stands, the error. -/
abbrev St (α : Type) := List α × Nat × Int
def gI (l : Bytes) (st : St Int) (c : Int) : St Int :=
  (st.1 ++ [(cInt l st.2.1 st.2.2).1], (cInt l st.2.1 st.2.2).2.1, if inC c (cInt l st.2.1 st.2.2).1 then (cInt l st.2.1 st.2.2).2.2 else cFail (cInt l st.2.1 st.2.2).2.2 10)
def gInts (l : Bytes) (cs : List Int) (st : St Int) : St Int := cs.foldl (gI l) st
def gT (l : Bytes) (lim : Nat) (st : St ByteArray) : St ByteArray := (st.1 ++ [str (cText l st.2.1 st.2.2 lim).1], (cText l st.2.1 st.2.2 lim).2.1, (cText l st.2.1 st.2.2 lim).2.2)
def gTexts (l : Bytes) (lim : Nat) : Nat → St ByteArray → St ByteArray
  | 0, st => st
  | k + 1, st => gT l lim (gTexts l lim k st)
def gK (l : Bytes) (at_ count : Nat) (st : St Int) : St Int :=
  (st.1 ++ [((cUint l st.2.1 st.2.2 16777216).1 : Int)], (cUint l st.2.1 st.2.2 16777216).2.1,
    if (cUint l st.2.1 st.2.2 16777216).1 ≤ at_ ∨ count ≤ (cUint l st.2.1 st.2.2 16777216).1 then cFail (cUint l st.2.1 st.2.2 16777216).2.2 13 else (cUint l st.2.1 st.2.2 16777216).2.2)
def gKids (l : Bytes) (at_ count : Nat) : Nat → St Int → St Int
  | 0, st => st
  | k + 1, st => if st.2.2 = 0 then gKids l at_ count k (gK l at_ count st) else st
/-- A node of version 1, where one stands, the error. -/
def oldGet (l : Bytes) (p : Nat) (e : Int) (at_ count edges : Nat) (lim : Lim) : Node × Nat × Int :=
  let r := cUint l p e 16777216
  let sp := (oldSpec r.1).getD noSpec
  let e1 := if (oldSpec r.1).isSome then r.2.2 else cFail r.2.2 9
  let a := gInts l sp.ints ([], r.2.1, e1)
  let t := gTexts l lim.t.toNat sp.texts ([], a.2.1, a.2.2)
  let fe := fieldErr [] t.1 0 ⟨[], sp.texts, 0, -1⟩
  let e2 := if fe ≠ 0 then cFail t.2.2 fe else t.2.2
  let k := cUint l t.2.1 e2 edges
  let e3 := if (k.1 : Int) < sp.least ∨ (0 ≤ sp.most ∧ sp.most < k.1) then cFail k.2.2 12 else k.2.2
  let q := gKids l at_ count k.1 ([], k.2.1, e3)
  (⟨r.1, a.1, t.1, q.1⟩, q.2.1, q.2.2)
end Pl

def strs (l : List ByteArray) : List Value := l.map fun s => .string s
theorem strs_len (l : List ByteArray) : (strs l).length = l.length := by simp [strs]
theorem strs_append (l m : List ByteArray) : strs (l ++ m) = strs l ++ strs m := by simp [strs]
/-- The rows of a node of the call's own. -/
structure ONode (B : Nat) (n : Pl.Node) (vi vt vk : Value) (w : World) : Prop where
  oi : w.ownsRow B 2 1 vi n.ints.length (i64s n.ints)
  ot : w.ownsRow B 9 1 vt n.texts.length (strs n.texts)
  ok : w.ownsRow B 3 1 vk n.kids.length (i64s n.kids)
theorem ONode.upd {B : Nat} {n : Pl.Node} {vi vt vk : Value} {w w' : World} {S : Nat → Prop} (h : ONode B n vi vt vk w) (hu : Upd S w w') (h1 : ∀ k, vi.ownBlock = some k → ¬ S k) (h2 : ∀ k, vt.ownBlock = some k → ¬ S k) (h3 : ∀ k, vk.ownBlock = some k → ¬ S k) : ONode B n vi vt vk w' :=
  ⟨hu.own h.oi h1, hu.own h.ot h2, hu.own h.ok h3⟩
theorem own_cells {w : World} {B : Nat} {t : TypeId} {v : Value} {n : Nat} {xs : List Value} (h : w.ownsRow B t 1 v n xs) : ∃ A c, v = .slice A n c ∧ (0 < n → ∃ ad, A = some ad ∧ ∀ j u, xs[j]? = some u → w.cell? (ad.add j) = some u) := by
  rcases h.2 with ⟨rfl, rfl⟩ | ⟨g, cap, cur, rfl, _⟩
  · exact ⟨_, _, rfl, fun h => by omega⟩
  · exact ⟨_, _, rfl, fun _ => ⟨_, rfl, fun j u hj => h.cells (g := g) rfl j u hj⟩⟩
theorem own_nums {w : World} {B : Nat} {t : TypeId} {v : Value} {l : List Int} (h : w.ownsRow B t 1 v l.length (i64s l)) : RNums w v l := by
  obtain ⟨A, c, rfl, hc⟩ := own_cells h
  refine ⟨A, c, rfl, fun hl => ?_⟩
  obtain ⟨ad, rfl, hq⟩ := hc hl
  exact ⟨ad, rfl, fun j hj => hq j _ (i64s_get l j hj)⟩
theorem own_strs {w : World} {B : Nat} {t : TypeId} {v : Value} {l : List ByteArray} (h : w.ownsRow B t 1 v l.length (strs l)) : RStrs w v l := by
  obtain ⟨A, c, rfl, hc⟩ := own_cells h
  refine ⟨A, c, rfl, fun hl => ?_⟩
  obtain ⟨ad, rfl, hq⟩ := hc hl
  exact ⟨ad, rfl, fun j hj => hq j _ (by simp [strs, hj])⟩
theorem RNums.upd {w w' : World} {S : Nat → Prop} {v : Value} {l : List Int} (h : RNums w v l) (hu : Upd S w w') (hn : ∀ k, v.ownBlock = some k → ¬ S k) : RNums w' v l := by
  obtain ⟨A, c, rfl, h⟩ := h
  refine ⟨A, c, rfl, fun hl => ?_⟩
  obtain ⟨ad, rfl, hc⟩ := h hl
  refine ⟨ad, rfl, fun j hj => ?_⟩
  have hb : (ad.add j).block = ad.block := by unfold Addr.add; split <;> rfl
  have h1 := hc j hj
  have hlt := World.block_lt_of_cell? w _ h1
  exact (World.cell?_of_block (hu.block _ hlt (by rw [hb]; exact hn _ rfl))).trans h1
set_option maxRecDepth 100000 in
theorem infoInt64 : (Tryd.prog.info? 2).map (fun i => (i.zero, i.size, i.bytes)) = some (some (.int .i64 0), 1, 8) := by kernel_rfl
set_option maxRecDepth 100000 in
theorem infoStr : (Tryd.prog.info? 9).map (fun i => (i.zero, i.size, i.bytes)) = some (some (.string ⟨#[]⟩), 1, 16) := by kernel_rfl

/-- Rows of different elements lie apart. -/
theorem own_apart {w : World} {B B' : Nat} {t t' : TypeId} {s s' n n' : Nat} {v v' : Value} {xs xs' : List Value} (h : w.ownsRow B t s v n xs) (h' : w.ownsRow B' t' s' v' n' xs') (hne : t ≠ t') (k : Nat) (hk : v.ownBlock = some k) : v'.ownBlock ≠ some k := by
  rcases h.2 with ⟨rfl, _⟩ | ⟨g, cap, cur, rfl, hb, hh, _⟩
  · simp [Value.ownBlock] at hk
  · have : g = k := by simpa [Value.ownBlock] using hk
    subst this
    exact own_notRow h' (notRow_of hh hne)
/-- What oldfile.get works on: the world at its begin, the cursor g, the node's box N, the Spec's box S, the first block B behind all that; the limits; the Spec. -/
structure GC where
  w : World
  g : Nat
  N : Nat
  S : Nat
  B : Nat
  b : ByteArray
  lim : Pl.Lim
  su : Value
  sp : Pl.Spec
structure GC.Ok (c : GC) : Prop where
  gl : c.g < c.w.heap.size
  nl : c.w.heap.size + 1 < c.N
  ns : c.N < c.S
  sb : c.S < c.B
  sub : 0 < c.sp.ints.length → ∀ k, c.su.ownBlock = some k → k < c.B ∧ k ≠ c.g ∧ k ≠ c.N
structure GetB (c : GC) (p : Nat) (e : Int) (w' : World) : Prop where
  cur : CurAt w' c.g c.b p e
  upd : Upd (· = c.g) c.w w'
  lr : w'.heap[c.w.heap.size]? = some (.cells (limC c.lim) 26 (0, 0))
  rr : w'.heap[c.w.heap.size + 1]? = some (.cells #[.int .i64 0, .slice none 0 0, .slice none 0 0, .slice none 0 0] 43 (0, 0))
  sr : w'.heap[c.S]? = some (.cells #[c.su, .int .i64 c.sp.texts, .int .i64 c.sp.least, .int .i64 c.sp.most] 115 (0, 0))
  sn : RNums w' c.su c.sp.ints
structure GetS (c : GC) (p : Nat) (e : Int) (n : Pl.Node) (vi vt vk : Value) (w' : World) : Prop where
  bs : GetB c p e w'
  node : w'.heap[c.N]? = some (.cells #[.int .i64 n.kind, vi, vt, vk] 43 (0, 0))
  own : ONode c.B n vi vt vk w'
theorem RNums.upd' {w w' : World} {S : Nat → Prop} {v : Value} {l : List Int} (h : RNums w v l) (hu : Upd S w w') (hn : 0 < l.length → ∀ k, v.ownBlock = some k → ¬ S k) : RNums w' v l := by
  rcases Nat.eq_zero_or_pos l.length with h0 | h0
  · obtain ⟨A, c, rfl, h⟩ := h
    exact ⟨A, c, rfl, fun hl => by omega⟩
  · exact h.upd hu (hn h0)
section
variable {c : GC} {w1 w2 : World} {p p' : Nat} {e e' : Int} {n : Pl.Node} {vi vt vk v' : Value}
theorem GetB.lcell (h : GetB c p e w1) : w1.cell? ⟨c.w.heap.size, 4, none⟩ = some (.int .i64 c.lim.t) := (cells5 h.lr).2.2.2.2
theorem GetB.scells (h : GetB c p e w1) : w1.cell? ⟨c.S, 0, none⟩ = some c.su ∧ w1.cell? ⟨c.S, 1, none⟩ = some (.int .i64 c.sp.texts) ∧ w1.cell? ⟨c.S, 2, none⟩ = some (.int .i64 c.sp.least) ∧ w1.cell? ⟨c.S, 3, none⟩ = some (.int .i64 c.sp.most) := cells4 h.sr
/-- What turns: blocks of S alone, none of those that are held. -/
theorem GetB.turn {S : Nat → Prop} (h : GetB c p e w1) (ok : c.Ok) (hc : CurAt w2 c.g c.b p' e') (hu : Upd S w1 w2) (hS : ∀ k, S k → k = c.g ∨ k = c.N ∨ c.B ≤ k) : GetB c p' e' w2 := by
  have h1 := ok.gl
  have h2 := ok.nl
  have h3 := ok.ns
  have h4 := ok.sb
  refine ⟨hc, h.upd.after hu (fun i hi => ?_), (hu.block _ (Array.getElem?_eq_some_iff.1 h.lr).1 (fun hs => by rcases hS _ hs with h | h | h <;> omega)).trans h.lr, (hu.block _ (Array.getElem?_eq_some_iff.1 h.rr).1 (fun hs => by rcases hS _ hs with h | h | h <;> omega)).trans h.rr,
    (hu.block _ (Array.getElem?_eq_some_iff.1 h.sr).1 (fun hs => by rcases hS _ hs with h | h | h <;> omega)).trans h.sr, h.sn.upd' hu (fun hl k hk hs => ?_)⟩
  · rcases hS i hi with h | h | h
    · exact .inl h
    · exact .inr (by omega)
    · exact .inr (by omega)
  · have := ok.sub hl k hk
    rcases hS k hs with h | h | h <;> omega
theorem GetB.step (h : GetB c p e w1) (ok : c.Ok) (hc : CurAt w2 c.g c.b p' e') (hu : Upd (· = c.g) w1 w2) : GetB c p' e' w2 := h.turn ok hc hu (fun _ hk => .inl hk)
theorem GetB.below (h : GetB c p e w1) (ok : c.Ok) (hb : Below w1.heap.size w1 w2) : GetB c p e w2 := h.step ok ((hb.block _ h.cur.lt).trans h.cur) (Upd.of_below hb)
/-- What turns: a row of the call's own. -/
theorem GetB.row {t : TypeId} {m : Nat} {xs : List Value} (h : GetB c p e w1) (ok : c.Ok) (ho : w1.ownsRow c.B t 1 v' m xs) (hu : Upd (fun k => v'.ownBlock = some k) w1 w2) : GetB c p e w2 := by
  have hge := own_ge ho
  exact h.turn ok (h.cur.upd hu (fun hs => by have := hge _ hs; have := ok.gl; have := ok.nl; have := ok.ns; have := ok.sb; omega)) hu (fun k hk => .inr (.inr (hge k hk)))
/-- What turns: the node's box. -/
theorem GetB.box (h : GetB c p e w1) (ok : c.Ok) (j : Nat) (u : Value) : GetB c p e (w1.setCell ⟨c.N, j, none⟩ u) :=
  h.turn ok (h.cur.upd (Upd.one w1 c.N j u) (by have := ok.gl; have := ok.nl; omega)) (Upd.one w1 c.N j u) (fun k hk => .inr (.inl hk))
theorem own_turn {S : Nat → Prop} {t : TypeId} {m : Nat} {xs : List Value} (ok : c.Ok) (ho : w1.ownsRow c.B t 1 v' m xs) (hu : Upd S w1 w2) (hS : ∀ k, S k → k < c.B) : w2.ownsRow c.B t 1 v' m xs :=
  hu.own ho (fun k hk hs => by have := own_ge ho k hk; have := hS k hs; omega)
theorem GC.Ok.gb (ok : c.Ok) : c.g < c.B ∧ c.N < c.B := by have := ok.gl; have := ok.nl; have := ok.ns; have := ok.sb; omega
theorem GetS.step (h : GetS c p e n vi vt vk w1) (ok : c.Ok) (hc : CurAt w2 c.g c.b p' e') (hu : Upd (· = c.g) w1 w2) : GetS c p' e' n vi vt vk w2 := by
  have hgb := ok.gb
  exact ⟨h.bs.step ok hc hu, (hu.block _ (Array.getElem?_eq_some_iff.1 h.node).1 (by have := ok.gl; have := ok.nl; omega)).trans h.node, ⟨own_turn ok h.own.oi hu (fun k hk => by omega), own_turn ok h.own.ot hu (fun k hk => by omega), own_turn ok h.own.ok hu (fun k hk => by omega)⟩⟩
theorem GetS.below (h : GetS c p e n vi vt vk w1) (ok : c.Ok) (hb : Below w1.heap.size w1 w2) : GetS c p e n vi vt vk w2 := h.step ok ((hb.block _ h.bs.cur.lt).trans h.bs.cur) (Upd.of_below hb)
theorem GetS.drewN (h : GetS c p e n vi vt vk w1) (a : Nat) : GetS c p e n vi vt vk (w1.drewN a) := ⟨⟨h.bs.cur, h.bs.upd.drewN a, h.bs.lr, h.bs.rr, h.bs.sr, h.bs.sn⟩, h.node, ⟨h.own.oi, h.own.ot, h.own.ok⟩⟩
theorem GetS.ncells (h : GetS c p e n vi vt vk w1) : w1.cell? ⟨c.N, 0, none⟩ = some (.int .i64 n.kind) ∧ w1.cell? ⟨c.N, 1, none⟩ = some vi ∧ w1.cell? ⟨c.N, 2, none⟩ = some vt ∧ w1.cell? ⟨c.N, 3, none⟩ = some vk := cells4 h.node
end

theorem cInt_bd (l : Pl.Bytes) (p : Nat) (e : Int) (h : p ≤ l.length) : (cInt l p e).2.1 ≤ l.length := by
  have := cNum_bd l p e h
  unfold cInt
  simp only
  split <;> simp only <;> omega
/-- The region that reads a number and puts it behind the others. -/
structure IW (c : GC) (p : Nat) (e : Int) (p' : Nat) (e' : Int) (n : Pl.Node) (vi vt vk : Value) (L : Nat → Bool) (w' : World) : Prop where
  bs : GetB c (if L 3 then p' else p) (if L 3 then e' else e) w'
  oi : L 5 = false → w'.ownsRow c.B 2 1 vi n.ints.length (i64s n.ints)
  ot : w'.ownsRow c.B 9 1 vt n.texts.length (strs n.texts)
  ok : w'.ownsRow c.B 3 1 vk n.kids.length (i64s n.kids)
  node : ∃ u, w'.heap[c.N]? = some (.cells #[.int .i64 n.kind, u, vt, vk] 43 (0, 0)) ∧ (L 7 = false → u = vi)
theorem IW.same {c : GC} {p p' : Nat} {e e' : Int} {n : Pl.Node} {vi vt vk : Value} {L L' : Nat → Bool} {w' : World} (h : IW c p e p' e' n vi vt vk L w') (h3 : L' 3 = L 3) (h5 : L' 5 = L 5) (h7 : L' 7 = L 7) : IW c p e p' e' n vi vt vk L' w' :=
  ⟨by rw [h3]; exact h.bs, by rw [h5]; exact h.oi, h.ot, h.ok, by rw [h7]; exact h.node⟩
structure IR (c : GC) (r : Int) (n : Pl.Node) (vi vt vk : Value) (v : Nat → Value) (j : Nat) (w' : World) : Prop where
  r0 : j = 0 → v 0 = .pointer (some ⟨c.N, 1, none⟩)
  r1 : j = 1 → v 1 = vi
  r2 : j = 2 → v 2 = .pointer (some ⟨c.g, 0, none⟩)
  r3 : j = 3 → v 3 = .int .i64 r
  r4 : j = 4 → ∃ k, v 4 = .slice (some ⟨k, 0, none⟩) 1 1 ∧ w'.heap[k]? = some (.cells #[.int .i64 r] 2 (0, 0)) ∧ vi.ownBlock ≠ some k ∧ c.g ≠ k ∧ c.N ≠ k
  r5 : j = 5 → ∃ A d, v 5 = .slice A (n.ints.length + 1) d ∧ w'.ownsRow c.B 2 1 (v 5) (n.ints.length + 1) (i64s (n.ints ++ [r]))
  r6 : j = 6 → v 6 = .pointer (some ⟨c.N, 1, none⟩)
  r7 : j = 7 → w'.heap[c.N]? = some (.cells #[.int .i64 n.kind, v 5, vt, vk] 43 (0, 0))
namespace IR
variable {c : GC} {r : Int} {n : Pl.Node} {vi vt vk : Value} {v : Nat → Value} {j : Nat} {w1 w2 : World}
theorem turn {S : Nat → Prop} (h : IR c r n vi vt vk v j w1) (hu : Upd S w1 w2) (h4 : j = 4 → ∀ k, v 4 = .slice (some ⟨k, 0, none⟩) 1 1 → vi.ownBlock ≠ some k → c.g ≠ k → c.N ≠ k → ¬ S k) (h5 : j = 5 → ∀ k, (v 5).ownBlock = some k → ¬ S k) (h7 : j = 7 → ¬ S c.N) : IR c r n vi vt vk v j w2 :=
  ⟨h.r0, h.r1, h.r2, h.r3, fun e => by
    obtain ⟨k, a1, a2, a3, a4, a5⟩ := h.r4 e
    exact ⟨k, a1, (hu.block _ (Array.getElem?_eq_some_iff.1 a2).1 (h4 e k a1 a3 a4 a5)).trans a2, a3, a4, a5⟩, fun e => by
    obtain ⟨A, d, a1, a2⟩ := h.r5 e
    exact ⟨A, d, a1, hu.own a2 (h5 e)⟩, h.r6, fun e => (hu.block _ (Array.getElem?_eq_some_iff.1 (h.r7 e)).1 (h7 e)).trans (h.r7 e)⟩
theorem upd (h : IR c r n vi vt vk v j w1) {i : Nat} (hj : j ≠ i) (x : Value) (h7 : j = 7 → i ≠ 5) : IR c r n vi vt vk (fun k => if k = i then x else v k) j w1 := by
  constructor
  all_goals
    intro e1
    subst e1
  case r4 => simpa [if_neg hj] using h.r4 rfl
  case r5 => simpa [if_neg hj] using h.r5 rfl
  case r7 => have := h7 rfl; simpa [if_neg (Ne.symm this)] using h.r7 rfl
  all_goals rw [if_neg hj]
  · exact h.r0 rfl
  · exact h.r1 rfl
  · exact h.r2 rfl
  · exact h.r3 rfl
  · exact h.r6 rfl
end IR

/-- The region that reads a text and puts it behind the others. -/
structure TW (c : GC) (p : Nat) (e : Int) (p' : Nat) (e' : Int) (n : Pl.Node) (vi vt vk : Value) (L : Nat → Bool) (w' : World) : Prop where
  bs : GetB c (if L 5 then p' else p) (if L 5 then e' else e) w'
  ot : L 7 = false → w'.ownsRow c.B 9 1 vt n.texts.length (strs n.texts)
  oi : w'.ownsRow c.B 2 1 vi n.ints.length (i64s n.ints)
  ok : w'.ownsRow c.B 3 1 vk n.kids.length (i64s n.kids)
  node : ∃ u, w'.heap[c.N]? = some (.cells #[.int .i64 n.kind, vi, u, vk] 43 (0, 0)) ∧ (L 9 = false → u = vt)
theorem TW.same {c : GC} {p p' : Nat} {e e' : Int} {n : Pl.Node} {vi vt vk : Value} {L L' : Nat → Bool} {w' : World} (h : TW c p e p' e' n vi vt vk L w') (h3 : L' 5 = L 5) (h5 : L' 7 = L 7) (h7 : L' 9 = L 9) : TW c p e p' e' n vi vt vk L' w' :=
  ⟨by rw [h3]; exact h.bs, by rw [h5]; exact h.ot, h.oi, h.ok, by rw [h7]; exact h.node⟩
structure TR (c : GC) (r : ByteArray) (n : Pl.Node) (vi vt vk : Value) (v : Nat → Value) (j : Nat) (w' : World) : Prop where
  r0 : j = 0 → v 0 = .pointer (some ⟨c.N, 2, none⟩)
  r1 : j = 1 → v 1 = vt
  r2 : j = 2 → v 2 = .pointer (some ⟨c.g, 0, none⟩)
  r3 : j = 3 → v 3 = .pointer (some ⟨c.w.heap.size, 4, none⟩)
  r4 : j = 4 → v 4 = .int .i64 c.lim.t
  r5 : j = 5 → v 5 = .string r
  r6 : j = 6 → ∃ k, v 6 = .slice (some ⟨k, 0, none⟩) 1 1 ∧ w'.heap[k]? = some (.cells #[.string r] 9 (0, 0)) ∧ vt.ownBlock ≠ some k ∧ c.g ≠ k ∧ c.N ≠ k
  r7 : j = 7 → ∃ A d, v 7 = .slice A (n.texts.length + 1) d ∧ w'.ownsRow c.B 9 1 (v 7) (n.texts.length + 1) (strs (n.texts ++ [r]))
  r8 : j = 8 → v 8 = .pointer (some ⟨c.N, 2, none⟩)
  r9 : j = 9 → w'.heap[c.N]? = some (.cells #[.int .i64 n.kind, vi, v 7, vk] 43 (0, 0))
namespace TR
variable {c : GC} {r : ByteArray} {n : Pl.Node} {vi vt vk : Value} {v : Nat → Value} {j : Nat} {w1 w2 : World}
theorem turn {S : Nat → Prop} (h : TR c r n vi vt vk v j w1) (hu : Upd S w1 w2) (h4 : j = 6 → ∀ k, v 6 = .slice (some ⟨k, 0, none⟩) 1 1 → vt.ownBlock ≠ some k → c.g ≠ k → c.N ≠ k → ¬ S k) (h5 : j = 7 → ∀ k, (v 7).ownBlock = some k → ¬ S k) (h7 : j = 9 → ¬ S c.N) : TR c r n vi vt vk v j w2 :=
  ⟨h.r0, h.r1, h.r2, h.r3, h.r4, h.r5, fun e => by
    obtain ⟨k, a1, a2, a3, a4, a5⟩ := h.r6 e
    exact ⟨k, a1, (hu.block _ (Array.getElem?_eq_some_iff.1 a2).1 (h4 e k a1 a3 a4 a5)).trans a2, a3, a4, a5⟩, fun e => by
    obtain ⟨A, d, a1, a2⟩ := h.r7 e
    exact ⟨A, d, a1, hu.own a2 (h5 e)⟩, h.r8, fun e => (hu.block _ (Array.getElem?_eq_some_iff.1 (h.r9 e)).1 (h7 e)).trans (h.r9 e)⟩
theorem upd (h : TR c r n vi vt vk v j w1) {i : Nat} (hj : j ≠ i) (x : Value) (h7 : j = 9 → i ≠ 7) : TR c r n vi vt vk (fun k => if k = i then x else v k) j w1 := by
  constructor
  all_goals
    intro e1
    subst e1
  case r6 => simpa [if_neg hj] using h.r6 rfl
  case r7 => simpa [if_neg hj] using h.r7 rfl
  case r9 => have := h7 rfl; simpa [if_neg (Ne.symm this)] using h.r9 rfl
  all_goals rw [if_neg hj]
  · exact h.r0 rfl
  · exact h.r1 rfl
  · exact h.r2 rfl
  · exact h.r3 rfl
  · exact h.r4 rfl
  · exact h.r5 rfl
  · exact h.r8 rfl
end TR

theorem cText_bd (l : Pl.Bytes) (p : Nat) (e : Int) (m : Nat) (h : p ≤ l.length) : (cText l p e m).1.length ≤ l.length ∧ (cText l p e m).2.1 ≤ l.length := by
  have h1 := (cUint_bd l p e m h).2.2
  have h2 := cBytes_bd l (cUint l p e m).2.1 (cUint l p e m).2.2 (cUint l p e m).1 h1
  unfold cText
  simp only
  split
  · simp; omega
  · exact h2
theorem GetS.fin {c : GC} {p : Nat} {e : Int} {n : Pl.Node} {vi vt vk : Value} {w1 : World} (h : GetS c p e n vi vt vk w1) (ok : c.Ok) (x y u z : Value) :
    ONode c.w.heap.size n vi vt vk ((((w1.setCell ⟨c.w.heap.size + 1, 0, none⟩ x).setCell ⟨c.w.heap.size + 1, 1, none⟩ y).setCell ⟨c.w.heap.size + 1, 2, none⟩ u).setCell ⟨c.w.heap.size + 1, 3, none⟩ z) ∧
    CurAt ((((w1.setCell ⟨c.w.heap.size + 1, 0, none⟩ x).setCell ⟨c.w.heap.size + 1, 1, none⟩ y).setCell ⟨c.w.heap.size + 1, 2, none⟩ u).setCell ⟨c.w.heap.size + 1, 3, none⟩ z) c.g c.b p e ∧
    Upd (· = c.g) c.w ((((w1.setCell ⟨c.w.heap.size + 1, 0, none⟩ x).setCell ⟨c.w.heap.size + 1, 1, none⟩ y).setCell ⟨c.w.heap.size + 1, 2, none⟩ u).setCell ⟨c.w.heap.size + 1, 3, none⟩ z) := by
  have hu : Upd (· = c.w.heap.size + 1) w1 ((((w1.setCell ⟨c.w.heap.size + 1, 0, none⟩ x).setCell ⟨c.w.heap.size + 1, 1, none⟩ y).setCell ⟨c.w.heap.size + 1, 2, none⟩ u).setCell ⟨c.w.heap.size + 1, 3, none⟩ z) :=
    (((Upd.one _ _ _ _).trans (Upd.one _ _ _ _)).trans (Upd.one _ _ _ _)).trans (Upd.one _ _ _ _)
  have h1 := ok.gl
  have h2 := ok.nl
  have h3 := ok.ns
  have h4 := ok.sb
  have hS : ∀ k, k = c.w.heap.size + 1 → k < c.B := fun k hk => by omega
  exact ⟨⟨own_base (own_turn ok h.own.oi hu hS) (by omega), own_base (own_turn ok h.own.ot hu hS) (by omega), own_base (own_turn ok h.own.ok hu hS) (by omega)⟩, h.bs.cur.upd hu (by omega), h.bs.upd.after hu (fun i hi => .inr (by omega))⟩
set_option maxHeartbeats 4000000 in
set_option maxRecDepth 100000 in
theorem of_get (g : Nat) (b : ByteArray) (p : Nat) (e : Int) (at_ count edges : Nat) (lim : Pl.Lim) (w : World) (hT : Lib.Utf8Tabs 0 1 w) (hc : CurAt w g b p e) (h2g : 2 ≤ g) (h1 : p ≤ b.size) (hb : b.size ≤ 1048576) (hat : at_ ≤ 16777216) (hco : count ≤ 16777216) (hed : edges ≤ 16777216) (hlt : 0 ≤ lim.t ∧ lim.t ≤ 16777216) :
    Calls Tryd.prog 45 #[.pointer (some ⟨g, 0, none⟩), .int .i64 at_, .int .i64 count, .int .i64 edges, limV lim] w fun en w' =>
      (∃ vi vt vk, en = .returned (.agg #[.int .i64 (Pl.oldGet b.data.toList p e at_ count edges lim).1.kind, vi, vt, vk]) ∧ ONode w.heap.size (Pl.oldGet b.data.toList p e at_ count edges lim).1 vi vt vk w') ∧
      CurAt w' g b (Pl.oldGet b.data.toList p e at_ count edges lim).2.1 (Pl.oldGet b.data.toList p e at_ count edges lim).2.2 ∧ Upd (· = g) w w' := by
  have HT := Lib.hid hT
  have hgl := hc.lt
  have hbl : b.data.toList.length = b.size := by simp
  generalize hd : b.data.toList = l at *
  obtain ⟨r, hr⟩ : ∃ r, r = cUint l p e 16777216 := ⟨_, rfl⟩
  have bd1 := cUint_bd l p e 16777216 (by omega)
  have HU : Hid (∀ w1, CurAt w1 g b p e → Calls Tryd.prog 44 #[.pointer (some ⟨g, 0, none⟩), .int .u64 16777216] w1 fun en w' => en = .returned (.int .i64 r.1) ∧ CurAt w' g b r.2.1 r.2.2 ∧ Upd (· = g) w1 w') := fun w1 h => by
    have := cur_uint g b p e 16777216 w1 h h1 (by omega) (by omega)
    rw [hd] at this; subst hr; exact this
  rw [← hr] at bd1
  obtain ⟨kd, p1, e1⟩ := r
  simp only at bd1 HU
  have HR1 := Lib.hid hr
  obtain ⟨bd1a, _, bd1b⟩ := bd1
  obtain ⟨sp, hsp⟩ : ∃ sp, sp = (Pl.oldSpec kd).getD Pl.noSpec := ⟨_, rfl⟩
  obtain ⟨so, hso⟩ : ∃ so, so = (Pl.oldSpec kd).isSome := ⟨_, rfl⟩
  have HO : Hid (∀ w, Calls Tryd.prog 47 #[.int .i64 kd] w fun en w' => (∃ v, en = .returned (.tuple #[specV v sp, .bool so]) ∧ RNums w' v sp.ints ∧ ∀ j, v.ownBlock = some j → w.heap.size ≤ j) ∧ Below w.heap.size w w') := fun w => by subst hsp hso; exact sch_old kd w
  have hsb : sp.ints.length ≤ 100 ∧ sp.texts ≤ 100 ∧ sp.least ≤ 100 := by subst hsp; exact Pl.oldSpec_bd kd
  have HSP := Lib.hid hsp
  have HSO := Lib.hid hso
  have hlr : Hid (((w.alloc (.cells (limC lim) 26)).alloc (.cells #[.int .i64 0, .slice none 0 0, .slice none 0 0, .slice none 0 0] 43)).heap[w.heap.size]? = some (.cells (limC lim) 26 (0, 0))) := (Below.heap_alloc _ _ _ (by simp)).trans (heap_alloc_new w _)
  have hrr : Hid (((w.alloc (.cells (limC lim) 26)).alloc (.cells #[.int .i64 0, .slice none 0 0, .slice none 0 0, .slice none 0 0] 43)).heap[w.heap.size + 1]? = some (.cells #[.int .i64 0, .slice none 0 0, .slice none 0 0, .slice none 0 0] 43 (0, 0))) := by
    have := heap_alloc_new (w.alloc (.cells (limC lim) 26)) (.cells #[.int .i64 0, .slice none 0 0, .slice none 0 0, .slice none 0 0] 43)
    rwa [show (w.alloc (.cells (limC lim) 26)).heap.size = w.heap.size + 1 from by simp] at this
  have hcu : Hid (CurAt ((w.alloc (.cells (limC lim) 26)).alloc (.cells #[.int .i64 0, .slice none 0 0, .slice none 0 0, .slice none 0 0] 43)) g b p e) := (hc.alloc _).alloc _
  have hup : Hid (Upd (· = g) w ((w.alloc (.cells (limC lim) 26)).alloc (.cells #[.int .i64 0, .slice none 0 0, .slice none 0 0, .slice none 0 0] 43))) := ((Upd.refl _ _).alloc _).alloc _
  have hsz0 : Hid (((w.alloc (.cells (limC lim) 26)).alloc (.cells #[.int .i64 0, .slice none 0 0, .slice none 0 0, .slice none 0 0] 43)).heap.size = w.heap.size + 2) := by unfold Hid; simp
  clear hr hsp hso hc hT
  simp only [limV] at *
  go_enter Tryd.func45, Tryd.ntmps45
  go_upto_region 1 with (fail)
  have hlc : limC lim = #[.int .i64 lim.b, .int .i64 lim.n, .int .i64 lim.e, .int .i64 lim.d, .int .i64 lim.t] := rfl
  rw [hlc] at hlr hrr hcu hup hsz0
  generalize (w.alloc (.cells #[.int .i64 lim.b, .int .i64 lim.n, .int .i64 lim.e, .int .i64 lim.d, .int .i64 lim.t] 26)).alloc (.cells #[.int .i64 0, .slice none 0 0, .slice none 0 0, .slice none 0 0] 43) = w0 at *
  clear hlc
  go_wp2_with fail
  refine (HU.out _ hcu.out).mono ?_
  rintro en w1 ⟨rfl, hc1, hu1⟩
  have hN : w.heap.size + 1 < w1.heap.size := by have := hu1.size; have := hsz0.out; omega
  have hA2 : Hid (CurAt (w1.alloc (.cells #[.int .i64 kd, .slice none 0 0, .slice none 0 0, .slice none 0 0] 43)) g b p1 e1 ∧ Upd (· = g) w (w1.alloc (.cells #[.int .i64 kd, .slice none 0 0, .slice none 0 0, .slice none 0 0] 43)) ∧ (w1.alloc (.cells #[.int .i64 kd, .slice none 0 0, .slice none 0 0, .slice none 0 0] 43)).heap[w.heap.size]? = some (.cells #[.int .i64 lim.b, .int .i64 lim.n, .int .i64 lim.e, .int .i64 lim.d, .int .i64 lim.t] 26 (0, 0)) ∧
      (w1.alloc (.cells #[.int .i64 kd, .slice none 0 0, .slice none 0 0, .slice none 0 0] 43)).heap[w.heap.size + 1]? = some (.cells #[.int .i64 0, .slice none 0 0, .slice none 0 0, .slice none 0 0] 43 (0, 0)) ∧ (w1.alloc (.cells #[.int .i64 kd, .slice none 0 0, .slice none 0 0, .slice none 0 0] 43)).heap[w1.heap.size]? = some (.cells #[.int .i64 kd, .slice none 0 0, .slice none 0 0, .slice none 0 0] 43 (0, 0))) :=
    ⟨hc1.alloc _, (hup.out.trans hu1).alloc _, (Below.heap_alloc _ _ _ (by have := hN; omega)).trans ((hu1.block _ (by have := hsz0.out; omega) (by omega)).trans hlr.out), (Below.heap_alloc _ _ _ hN).trans ((hu1.block _ (by have := hsz0.out; omega) (by omega)).trans hrr.out), heap_alloc_new _ _⟩
  have HN := Lib.hid hN
  clear hc1 hu1 HU hcu hup hlr hrr hsz0 hN
  go_upto_region 2 with (fail)
  generalize hNe : w1.heap.size = N at *
  generalize w1.alloc (.cells #[.int .i64 kd, .slice none 0 0, .slice none 0 0, .slice none 0 0] 43) = w2 at *
  clear hNe
  obtain ⟨n0, n1, n2, n3⟩ := cells4 hA2.out.2.2.2.2
  go_wp2_with fail
  refine (HO.out _).mono ?_
  rintro en w3 ⟨⟨u, rfl, hu, huB⟩, hb3⟩
  obtain ⟨si, st, sl, sm⟩ := sp
  simp only at hsb hu
  obtain ⟨UA, uc, rfl, hu2⟩ := hu
  have hB4 : Below w2.heap.size w2 (w3.alloc (.cells #[.slice UA si.length uc, .int .i64 st, .int .i64 sl, .int .i64 sm] 115)) := hb3.trans (((Below.refl _ _).alloc (Nat.le_refl _) _).mono hb3.size)
  have hNw2 := (Array.getElem?_eq_some_iff.1 hA2.out.2.2.2.2).1
  have hOk : Hid (GC.Ok ⟨w, g, N, w3.heap.size, w3.heap.size + 1, b, lim, .slice UA si.length uc, ⟨si, st, sl, sm⟩⟩) := by
    refine ⟨hgl, HN.out, by have := hb3.size; show N < w3.heap.size; omega, Nat.lt_succ_self _, fun hl k hk => ?_⟩
    obtain ⟨ad, rfl, hcc⟩ := hu2 hl
    have h1 := World.block_lt_of_cell? w3 _ (hcc 0 hl)
    have h2 : (ad.add 0).block = k := by have : ad.block = k := by simpa [Value.ownBlock] using hk
                                         rw [← this]; unfold Addr.add; split <;> rfl
    have h3 := huB k hk
    have h4 := HN.out
    show k < w3.heap.size + 1 ∧ k ≠ g ∧ k ≠ N
    omega
  have GS : Hid (GetS ⟨w, g, N, w3.heap.size, w3.heap.size + 1, b, lim, .slice UA si.length uc, ⟨si, st, sl, sm⟩⟩ p1 e1 ⟨kd, [], [], []⟩ (.slice none 0 0) (.slice none 0 0) (.slice none 0 0) (w3.alloc (.cells #[.slice UA si.length uc, .int .i64 st, .int .i64 sl, .int .i64 sm] 115))) := by
    obtain ⟨a1, a2, a3, a4, a5⟩ := hA2.out
    have hu3 : RNums w3 (.slice UA si.length uc) si := ⟨UA, uc, rfl, hu2⟩
    exact ⟨⟨(hB4.block _ a1.lt).trans a1, a2.trans (Upd.of_below hB4), (hB4.block _ (Array.getElem?_eq_some_iff.1 a3).1).trans a3, (hB4.block _ (Array.getElem?_eq_some_iff.1 a4).1).trans a4, heap_alloc_new _ _, hu3.below ((Below.refl _ _).alloc (Nat.le_refl _) _)⟩,
      (hB4.block _ (Array.getElem?_eq_some_iff.1 a5).1).trans a5, ⟨own_none _ _ _ _, own_none _ _ _ _, own_none _ _ _ _⟩⟩
  clear n0 n1 n2 n3 hb3 hu2 huB HO hB4 hNw2 hA2
  simp only [specV]
  go_upto_region 3 with (fail)
  generalize hSe : w3.heap.size = S at *
  generalize w3.alloc (.cells #[.slice UA si.length uc, .int .i64 st, .int .i64 sl, .int .i64 sm] 115) = w4 at *
  clear hSe
  obtain ⟨e2, he2⟩ : ∃ e2, e2 = (if so then e1 else cFail e1 9) := ⟨_, rfl⟩
  have HE2 := Lib.hid he2
  clear he2
  go_upto_if 29 with (fail)
  go_cut [] (fun wx => Hid (GetS ⟨w, g, N, S, S + 1, b, lim, .slice UA si.length uc, ⟨si, st, sl, sm⟩⟩ p1 e2 ⟨kd, [], [], []⟩ (.slice none 0 0) (.slice none 0 0) (.slice none 0 0) wx))
  case first =>
    cases so
    · go_wp2_with fail
      refine (cur_fail g b p1 e1 9 _ GS.out.bs.cur).mono ?_
      rintro en w5 ⟨rfl, hc5, hu5⟩
      have hG := Lib.hid (GS.out.step hOk.out hc5 hu5)
      clear hc5 hu5 GS
      go_wp2_with fail
      go_meet
      have := HE2.out
      simp only [Bool.false_eq_true, if_false] at this
      rw [this]
      exact hG
    · go_wp2_with fail
      go_meet
      have := HE2.out
      simp only [if_true] at this
      rw [this]
      exact GS
  case rest =>
    clear GS
    have s0 : wc.cell? ⟨S, 0, none⟩ = some (.slice UA si.length uc) := hcut.out.bs.scells.1
    go_wp2_with fail
    clear s0
    go_loopw [14, 35] (fun _ i wr => ∃ (k : Nat) (ints : List Int) (vi : Value) (p2 : Nat) (e3 : Int), k ≤ si.length ∧ ints.length = k ∧ i = .int .i64 k ∧ p2 ≤ b.size ∧ Hid ((ints, p2, e3) = Pl.gInts l (si.take k) ([], p1, e2)) ∧ Hid (GetS ⟨w, g, N, S, S + 1, b, lim, .slice UA si.length uc, ⟨si, st, sl, sm⟩⟩ p2 e3 ⟨kd, ints, [], []⟩ vi (.slice none 0 0) (.slice none 0 0) wr)) (fun _ i _ => si.length - (intOf i).toNat)
    case atStart => exact ⟨0, [], _, p1, e2, by omega, rfl, rfl, by omega, rfl, hcut⟩
    case round =>
      clear hcut
      obtain ⟨k, ints, vi, p2, e3, hk, hil, rfl, hp2, hI, hG⟩ := hrel
      by_cases hlt : k < si.length
      · obtain ⟨ri, hri⟩ : ∃ ri, ri = cInt l p2 e3 := ⟨_, rfl⟩
        have HInt : Hid (∀ w1, CurAt w1 g b p2 e3 → Calls Tryd.prog 63 #[.pointer (some ⟨g, 0, none⟩)] w1 fun en w' => en = .returned (.int .i64 ri.1) ∧ CurAt w' g b ri.2.1 ri.2.2 ∧ Upd (· = g) w1 w') := fun w1 h => by
          have := cur_int g b p2 e3 w1 h hp2 (by omega)
          rw [hd] at this; subst hri; exact this
        have hbd := cInt_bd l p2 e3 (by omega)
        rw [← hri, hbl] at hbd
        obtain ⟨r, p3, e4⟩ := ri
        simp only at HInt hbd
        have HRi := Lib.hid hri
        have tl : decide ((k : Int) < si.length) = true := decide_eq_true (by omega)
        clear hri
        go_upto_region 8 with (fail)
        go_cut [] (fun wx => ∃ vi', Hid (GetS ⟨w, g, N, S, S + 1, b, lim, .slice UA si.length uc, ⟨si, st, sl, sm⟩⟩ p3 e4 ⟨kd, ints ++ [r], [], []⟩ vi' (.slice none 0 0) (.slice none 0 0) wx))
        case first =>
          have h0 : IW ⟨w, g, N, S, S + 1, b, lim, .slice UA si.length uc, ⟨si, st, sl, sm⟩⟩ p2 e3 p3 e4 ⟨kd, ints, [], []⟩ vi (.slice none 0 0) (.slice none 0 0) (fun _ => false) wr.drew :=
            ⟨⟨hG.out.bs.cur, hG.out.bs.upd.drew, hG.out.bs.lr, hG.out.bs.rr, hG.out.bs.sr, hG.out.bs.sn⟩, fun _ => hG.out.own.oi, hG.out.own.ot, hG.out.own.ok, ⟨vi, hG.out.node, fun _ => rfl⟩⟩
          refine wp_region_v [(0, some 38), (1, some 39), (2, some 40), (3, some 41), (4, some 42), (5, some 43), (6, some 44), (7, none)] rfl (by kernel_rfl) rfl (IR ⟨w, g, N, S, S + 1, b, lim, .slice UA si.length uc, ⟨si, st, sl, sm⟩⟩ r ⟨kd, ints, [], []⟩ vi (.slice none 0 0) (.slice none 0 0)) (IW ⟨w, g, N, S, S + 1, b, lim, .slice UA si.length uc, ⟨si, st, sl, sm⟩⟩ p2 e3 p3 e4 ⟨kd, ints, [], []⟩ vi (.slice none 0 0) (.slice none 0 0)) h0 ?_ ?_
          · intro L v bb w' i o ho hL hd hC hW hR hE hN
            have hi : i < 8 := (Array.getElem?_eq_some_iff.1 ho).1
            have hgb := hOk.out.gb
            have hgN : g ≠ N := by have h1 := hOk.out.gl; have h2 := hOk.out.nl; simp only at h1 h2; omega
            have x0 : bb.tmps[0]?.getD undef = .pointer (some ⟨g, 0, none⟩) := hN 0 (by decide)
            have x11 : bb.tmps[11]?.getD undef = .pointer (some ⟨N, 0, none⟩) := hN 11 (by decide)
            clear h0 hG
            simp only at hgb
            obtain rfl | rfl | rfl | rfl | rfl | rfl | rfl | rfl : i = 0 ∨ i = 1 ∨ i = 2 ∨ i = 3 ∨ i = 4 ∨ i = 5 ∨ i = 6 ∨ i = 7 := by omega
            · cases ho
              refine wp_val (.pointer (some ⟨N, 1, none⟩)) (w1 := w') (by go_simp) ⟨_, rfl, hW.same (by simp) (by simp) (by simp), fun j hj => ?_⟩
              rcases hj with rfl | hj
              · exact ⟨fun _ => rfl, by omega, by omega, by omega, by omega, by omega, by omega, by omega⟩
              · exact (hR j hj).upd (fun e => by rw [e, hL] at hj; cases hj) _ (fun _ => by omega)
            · cases ho
              have l7 : L 7 = false := by
                cases h7 : L 7
                · rfl
                · have h5 := hC 7 _ rfl h7 ⟨5, .data⟩ (by simp) rfl
                  have h1 := hC 5 _ rfl h5 ⟨1, .data⟩ (by simp) rfl
                  rw [hL] at h1; cases h1
              have l0 : L 0 = true := hd ⟨0, .data⟩ (by simp) rfl
              have e0 : bb.tmps[38]?.getD undef = v 0 := hE 0 _ 38 rfl l0 rfl
              rw [(hR 0 l0).r0 rfl] at e0
              obtain ⟨u, hu1, hu2⟩ := hW.node
              rw [hu2 l7] at hu1
              have c1 : w'.cell? ⟨N, 1, none⟩ = some vi := (cells4 hu1).2.1
              simp only at e0
              have hvi : ∃ A n c, vi = .slice A n c := by
                have h5 : L 5 = false := by
                  cases h5 : L 5
                  · rfl
                  · have h1 := hC 5 _ rfl h5 ⟨1, .data⟩ (by simp) rfl
                    rw [hL] at h1; cases h1
                obtain ⟨A, c, h⟩ := own_slice (hW.oi h5)
                exact ⟨A, _, c, h⟩
              obtain ⟨vA, vn, vc, hve⟩ := hvi
              refine wp_val vi (w1 := w') (by rw [hve] at c1 ⊢; go_simp) ⟨_, rfl, hW.same (by simp) (by simp) (by simp), fun j hj => ?_⟩
              rcases hj with rfl | hj
              · exact ⟨by omega, fun _ => rfl, by omega, by omega, by omega, by omega, by omega, by omega⟩
              · exact (hR j hj).upd (fun e => by rw [e, hL] at hj; cases hj) _ (fun _ => by omega)
            · cases ho
              refine wp_val (.pointer (some ⟨g, 0, none⟩)) (w1 := w') (by go_simp) ⟨_, rfl, hW.same (by simp) (by simp) (by simp), fun j hj => ?_⟩
              rcases hj with rfl | hj
              · exact ⟨by omega, by omega, fun _ => rfl, by omega, by omega, by omega, by omega, by omega⟩
              · exact (hR j hj).upd (fun e => by rw [e, hL] at hj; cases hj) _ (fun _ => by omega)
            · cases ho
              have l2 : L 2 = true := hd ⟨2, .data⟩ (by simp) rfl
              have e2x : bb.tmps[40]?.getD undef = v 2 := hE 2 _ 40 rfl l2 rfl
              rw [(hR 2 l2).r2 rfl] at e2x
              have hcu := hW.bs.cur
              simp only [hL, Bool.false_eq_true, if_false] at hcu
              refine wp_call _ #[.pointer (some ⟨g, 0, none⟩)] (w1 := w') (by go_simp) ((HInt.out w' hcu).mono ?_)
              rintro en w2 ⟨rfl, hc2, hu2⟩
              refine ⟨_, rfl, _, rfl, ?_, fun j hj => ?_⟩
              · obtain ⟨u, hn1, hn2⟩ := hW.node
                refine ⟨by simpa using hW.bs.step hOk.out hc2 hu2, fun h5 => own_turn hOk.out (hW.oi (by simpa using h5)) hu2 (fun k hk => by simp only; omega), own_turn hOk.out hW.ot hu2 (fun k hk => by simp only; omega), own_turn hOk.out hW.ok hu2 (fun k hk => by simp only; omega),
                  ⟨u, (hu2.block _ (Array.getElem?_eq_some_iff.1 hn1).1 (fun e => hgN e.symm)).trans hn1, fun h7 => hn2 (by simpa using h7)⟩⟩
              · rcases hj with rfl | hj
                · exact ⟨by omega, by omega, by omega, fun _ => rfl, by omega, by omega, by omega, by omega⟩
                · refine IR.upd ((hR j hj).turn hu2 (fun _ k _ _ hg _ e => hg e.symm) (fun e5 k hk e => ?_) (fun _ e => hgN e.symm)) (fun e => by rw [e, hL] at hj; cases hj) _ (fun _ => by omega)
                  obtain ⟨A, d, _, ho⟩ := (hR j hj).r5 e5
                  have := own_ge ho k hk
                  simp only at this; omega
            · cases ho
              have l3 : L 3 = true := hd ⟨3, .data⟩ (by simp) rfl
              have e3x : bb.tmps[41]?.getD undef = v 3 := hE 3 _ 41 rfl l3 rfl
              rw [(hR 3 l3).r3 rfl] at e3x
              have l5 : L 5 = false := by
                cases h5 : L 5
                · rfl
                · have h1 := hC 5 _ rfl h5 ⟨4, .data⟩ (by simp) rfl
                  rw [hL] at h1; cases h1
              have hbw : Below w'.heap.size w' (w'.alloc (.cells #[.int .i64 r] 2)) := (Below.refl _ _).alloc (Nat.le_refl _) _
              refine wp_val (.slice (some ⟨w'.heap.size, 0, none⟩) 1 1) (w1 := w'.alloc (.cells #[.int .i64 r] 2)) (by go_simp) ⟨_, rfl, ?_, fun j hj => ?_⟩
              · obtain ⟨u, hn1, hn2⟩ := hW.node
                refine ⟨by simpa using hW.bs.below hOk.out hbw, fun h5 => own_new (hW.oi l5) _, own_new hW.ot _, own_new hW.ok _, ⟨u, (Below.heap_alloc _ _ _ (Array.getElem?_eq_some_iff.1 hn1).1).trans hn1, fun h7 => hn2 (by simpa using h7)⟩⟩
              · have hu2 : Upd (fun _ => False) w' (w'.alloc (.cells #[.int .i64 r] 2)) := Upd.of_below hbw
                rcases hj with rfl | hj
                · refine ⟨by omega, by omega, by omega, by omega, fun _ => ⟨w'.heap.size, rfl, heap_alloc_new _ _, fun e => by have := own_lt (hW.oi l5) _ e; omega, ?_, ?_⟩, by omega, by omega, by omega⟩
                  · have := hW.bs.cur.lt; simp only at this ⊢; omega
                  · obtain ⟨u, hn1, _⟩ := hW.node
                    have := (Array.getElem?_eq_some_iff.1 hn1).1; simp only at this ⊢; omega
                · exact IR.upd ((hR j hj).turn hu2 (fun _ _ _ _ _ _ => id) (fun _ _ _ => id) (fun _ => id)) (fun e => by rw [e, hL] at hj; cases hj) _ (fun _ => by omega)
            · cases ho
              have l1 : L 1 = true := hd ⟨1, .data⟩ (by simp) rfl
              have l4 : L 4 = true := hd ⟨4, .data⟩ (by simp) rfl
              have e1x : bb.tmps[39]?.getD undef = v 1 := hE 1 _ 39 rfl l1 rfl
              have e4x : bb.tmps[42]?.getD undef = v 4 := hE 4 _ 42 rfl l4 rfl
              rw [(hR 1 l1).r1 rfl] at e1x
              obtain ⟨kk, h4, hrow, hne, hgk, hNk⟩ := (hR 4 l4).r4 rfl
              rw [h4] at e4x
              have hoi := hW.oi hL
              obtain ⟨i0, hi0, hz0, hz1, hz2⟩ := info_parts infoInt64
              have l7 : L 7 = false := by
                cases h7 : L 7
                · rfl
                · have h5 := hC 7 _ rfl h7 ⟨5, .data⟩ (by simp) rfl
                  rw [hL] at h5; cases h5
              refine wp_append_lies w' (.tmp 39) (.tmp 42) 40 rfl (S + 1) 2 i0 (.int .i64 0) 1 8 Tryd.underlying40 hi0 hz0 hz1 hz2 rfl (by decide) vi ints.length (i64s ints) ((eval_get bb 39).trans e1x) hoi ⟨kk, 0, none⟩ 1 1 [.int .i64 r] ((eval_get bb 42).trans e4x) rfl ?_ (by simp [Value.oneCell']) (by decide) (by unfold maxLen; omega) (by omega) ?_ _ rfl ?_
              · intro j u hj
                have hj0 : j = 0 := by
                  rcases j with _ | j
                  · rfl
                  · simp at hj
                subst hj0
                simp at hj; subst hj
                rw [show (⟨kk, 0, none⟩ : Addr).add 0 = ⟨kk, 0, none⟩ from rfl, cell_row hrow]; rfl
              · have := (Array.getElem?_eq_some_iff.1 hW.bs.sr).1; simp only at this; omega
              · intro g5 cap5 w2 hown hgrow _ _
                have hu2 := Upd.grown hgrow
                refine ⟨_, rfl, ?_, fun j hj => ?_⟩
                · obtain ⟨u, hn1, hn2⟩ := hW.node
                  refine ⟨by simpa using hW.bs.row hOk.out hoi hu2, fun h5 => by simp at h5, hu2.own hW.ot (fun k hk e => own_apart hoi hW.ot (by decide) k e hk), hu2.own hW.ok (fun k hk e => own_apart hoi hW.ok (by decide) k e hk),
                    ⟨u, (hu2.block _ (Array.getElem?_eq_some_iff.1 hn1).1 (own_notRow hoi (notRow_of hn1 (by decide)))).trans hn1, fun h7 => hn2 (by simpa using h7)⟩⟩
                · rcases hj with rfl | hj
                  · refine ⟨by omega, by omega, by omega, by omega, by omega, fun _ => ⟨_, _, rfl, ?_⟩, by omega, by omega⟩
                    simp only [if_true]
                    rw [i64s_append]; exact hown
                  · refine IR.upd ((hR j hj).turn hu2 (fun _ k _ hv _ _ => hv) (fun e5 => by rw [e5, hL] at hj; cases hj) (fun e7 => by rw [e7, l7] at hj; cases hj)) (fun e => by rw [e, hL] at hj; cases hj) _ (fun e7 => by rw [e7, l7] at hj; cases hj)
            · cases ho
              refine wp_val (.pointer (some ⟨N, 1, none⟩)) (w1 := w') (by go_simp) ⟨_, rfl, hW.same (by simp) (by simp) (by simp), fun j hj => ?_⟩
              rcases hj with rfl | hj
              · exact ⟨by omega, by omega, by omega, by omega, by omega, by omega, fun _ => rfl, by omega⟩
              · exact (hR j hj).upd (fun e => by rw [e, hL] at hj; cases hj) _ (fun _ => by omega)
            · cases ho
              have l5 : L 5 = true := hd ⟨5, .data⟩ (by simp) rfl
              have l6 : L 6 = true := hd ⟨6, .data⟩ (by simp) rfl
              have e5x : bb.tmps[43]?.getD undef = v 5 := hE 5 _ 43 rfl l5 rfl
              have e6x : bb.tmps[44]?.getD undef = v 6 := hE 6 _ 44 rfl l6 rfl
              rw [(hR 6 l6).r6 rfl] at e6x
              obtain ⟨A5, d5, h5, hown⟩ := (hR 5 l5).r5 rfl
              rw [h5] at e5x
              obtain ⟨u, hn1, hn2⟩ := hW.node
              have hu0 := hn2 hL
              have c1 := (cells4 hn1).2.1
              have f1 := frozen4 hn1 1
              simp only at e6x e5x c1 f1
              have hu2 := Upd.one w' N 1 (v 5)
              have hnew := heap_setCell_same w' N 1 _ _ (v 5) hn1
              rw [h5] at hu2 hnew
              refine wp_skip (w1 := w'.setCell ⟨N, 1, none⟩ (.slice A5 (ints.length + 1) d5)) (by go_simp) ⟨_, rfl, ?_, fun j hj => ?_⟩
              · have hbx := hW.bs.box hOk.out 1 (.slice A5 (ints.length + 1) d5)
                refine ⟨by simpa using hbx, fun h5 => by simp [l5] at h5, own_turn hOk.out hW.ot hu2 (fun k hk => by simp only; omega), own_turn hOk.out hW.ok hu2 (fun k hk => by simp only; omega), ⟨_, hnew, fun h7 => by simp at h7⟩⟩
              · rcases hj with rfl | hj
                · refine ⟨by omega, by omega, by omega, by omega, by omega, by omega, by omega, fun _ => ?_⟩
                  rw [if_neg (by decide), h5]; exact hnew
                · refine IR.upd ((hR j hj).turn hu2 (fun _ k _ _ _ hNk e => hNk e.symm) (fun e5 k hk e => ?_) (fun e7 => by rw [e7, hL] at hj; cases hj)) (fun e => by rw [e, hL] at hj; cases hj) _ (fun _ => by omega)
                  have := own_ge hown k hk
                  simp only at this; omega
          · intro L v w' hall hW hR
            have v0 := (hR 0 (by decide)).r0 rfl
            have v1 := (hR 1 (by decide)).r1 rfl
            have v2 := (hR 2 (by decide)).r2 rfl
            have v3 := (hR 3 (by decide)).r3 rfl
            obtain ⟨kk, v4, _⟩ := (hR 4 (by decide)).r4 rfl
            obtain ⟨A5, d5, v5, hown⟩ := (hR 5 (by decide)).r5 rfl
            have v6 := (hR 6 (by decide)).r6 rfl
            have h7 := (hR 7 (by decide)).r7 rfl
            have hb7 := hW.bs
            rw [hall 3 (by decide)] at hb7
            simp only [if_true] at hb7
            rw [v5] at hown h7
            have hGn : Hid (GetS ⟨w, g, N, S, S + 1, b, lim, .slice UA si.length uc, ⟨si, st, sl, sm⟩⟩ p3 e4 ⟨kd, ints ++ [r], [], []⟩ (.slice A5 (ints.length + 1) d5) (.slice none 0 0) (.slice none 0 0) w') := ⟨hb7, h7, ⟨by rw [List.length_append]; exact hown, hW.ot, hW.ok⟩⟩
            clear hR hW hown h7 hb7 h0 hG
            simp only [putL, Act.put, if_true, v0, v1, v2, v3, v4, v5, v6]
            go_simp
            go_wp2_with fail
            go_meet
            exact ⟨_, hGn⟩
        case rest =>
          obtain ⟨vi', hG'⟩ := hcut
          clear hG
          have hoi := hG'.out.own.oi
          simp only [List.length_append, List.length_singleton, hil] at hoi
          obtain ⟨G5, cap5, rfl⟩ : ∃ G cap, vi' = .slice (some ⟨G, 0, none⟩) (k + 1) cap := by
            rcases hoi.2 with ⟨_, h0⟩ | ⟨g, cap, cur, rfl, _⟩
            · omega
            · exact ⟨_, _, rfl⟩
          have q1 : wc.cell? ⟨G5, k, none⟩ = some (.int .i64 r) := by
            rw [hoi.cellAt k (by omega), i64s_append, List.getElem?_append_right (by rw [i64s_len]; omega), i64s_len, hil]; simp [i64s]
          have q2 : wc.cell? ⟨N, 1, none⟩ = some (.slice (some ⟨G5, 0, none⟩) (k + 1) cap5) := hG'.out.ncells.2.1
          have q3 : wc.cell? ⟨S, 0, none⟩ = some (.slice UA si.length uc) := hG'.out.bs.scells.1
          obtain ⟨_, _, hve, hcc⟩ := hG'.out.bs.sn
          simp only at hve hcc
          cases hve
          obtain ⟨sd, rfl, hca⟩ := hcc (by omega)
          have q4 := hca k hlt
          have t1 : decide ((k : Int) < si.length) = true := decide_eq_true (by omega)
          have HG' : Hid (∃ vi', Hid (GetS ⟨w, g, N, S, S + 1, b, lim, .slice (some sd) si.length uc, ⟨si, st, sl, sm⟩⟩ p3 e4 ⟨kd, ints ++ [r], [], []⟩ vi' (.slice none 0 0) (.slice none 0 0) wc)) := ⟨_, hG'⟩
          obtain ⟨m, hm⟩ : ∃ m, m = k + 1 := ⟨_, rfl⟩
          rw [← hm] at q2
          have t2 : decide ((k : Int) < m) = true := decide_eq_true (by omega)
          have t3 : decide (k < m) = true := decide_eq_true (by omega)
          have HM := Lib.hid hm
          have hkm : k < m := by omega
          clear hG' hm
          have htk : si.take (k + 1) = si.take k ++ [si[k]] := List.take_succ_eq_append_getElem hlt
          have hgi : Hid ((ints ++ [r], p3, if Pl.inC si[k] r then e4 else cFail e4 10) = Pl.gInts l (si.take (k + 1)) ([], p1, e2)) := by
            unfold Hid Pl.gInts
            rw [htk, List.foldl_append]
            have := hI.out
            unfold Pl.gInts at this
            rw [← this]
            show _ = Pl.gI l (ints, p2, e3) si[k]
            unfold Pl.gI
            simp only
            rw [← HRi.out]
          have hlen1 : Hid ((ints ++ [r]).length = k + 1) := by unfold Hid; simp [hil]
          have hkb : k ≤ 100 := by omega
          have HLT : Hid (k < si.length) := hlt
          clear hca hcc hoi htk hI
          generalize si[k] = cv at *
          have HIn : Hid (∀ w, Calls Tryd.prog 64 #[.int .i64 cv, .int .i64 r] w fun en w' => en = .returned (.bool (Pl.inC cv r)) ∧ w' = w) := fun w => (sch_in cv r w).mono fun _ _ ⟨h1, h2⟩ => ⟨h1, h2.symm⟩
          generalize Pl.inC cv r = q at *
          go_upto_region 9 with (fail)
          go_quiet ((go_at_call 64; exact Calls.quiet_of_same (HIn.out _)))
          obtain ⟨vi', hG'⟩ := HG'.out
          clear HG' q1 q2 q3 q4 t2 t3
          cases q
          · simp only [Bool.false_eq_true, if_false] at hgi
            go_wp2_with fail
            refine (cur_fail g b p3 e4 10 _ (hG'.out.drewN _).bs.cur).mono ?_
            rintro en w6 ⟨rfl, hc6, hu6⟩
            have hG6 := Lib.hid ((hG'.out.drewN _).step hOk.out hc6 hu6)
            clear hc6 hu6 hG'
            go_wp2_with fail
            go_roundw
            case rel => exact ⟨k + 1, ints ++ [r], vi', p3, cFail e4 10, HLT.out, hlen1.out, by go_num, by simpa using hbd, hgi, hG6⟩
            case measure => have := HLT.out; simp [intOf]; omega
          · simp only [if_true] at hgi
            go_wp2_with fail
            go_roundw
            case rel => exact ⟨k + 1, ints ++ [r], vi', p3, e4, HLT.out, hlen1.out, by go_num, by simpa using hbd, hgi, hG'.out.drewN _⟩
            case measure => have := HLT.out; simp [intOf]; omega
      · obtain rfl : k = si.length := by omega
        rw [List.take_length] at hI
        have s1 := hG.out.bs.scells.2.1
        simp only at s1
        have HSt : Hid (st ≤ 100) := hsb.2.1
        go_wp2_with fail
        clear s1
        have hia : Hid ((ints, p2, e3) = Pl.gInts l si ([], p1, e2)) := hI
        obtain ⟨pa, hpa⟩ : ∃ pa, pa = p2 := ⟨_, rfl⟩
        obtain ⟨ea, hea⟩ : ∃ ea, ea = e3 := ⟨_, rfl⟩
        rw [← hpa, ← hea] at hia hG
        rw [← hpa] at hp2
        clear hI hpa hea
        go_loopw [62] (fun j wi => ∃ (jn : Nat) (texts : List ByteArray) (vt : Value) (p2 : Nat) (e3 : Int), jn ≤ st ∧ texts.length = jn ∧ j = .int .i64 jn ∧ p2 ≤ b.size ∧ Hid ((texts, p2, e3) = Pl.gTexts l lim.t.toNat jn ([], pa, ea)) ∧ Hid (∀ t ∈ texts, t.size ≤ b.size) ∧ Hid (GetS ⟨w, g, N, S, S + 1, b, lim, .slice UA si.length uc, ⟨si, st, sl, sm⟩⟩ p2 e3 ⟨kd, ints, texts, []⟩ vi vt (.slice none 0 0) wi)) (fun j _ => st - (intOf j).toNat)
        case atStart => exact ⟨0, [], _, pa, ea, by omega, rfl, rfl, hp2, rfl, by unfold Hid; simp, hG⟩
        case round =>
          clear hG hp2
          obtain ⟨jn, texts, vt, p2, e3, hjn, htl, rfl, hp2, hI, hSz, hG⟩ := hrel
          by_cases hj : jn < st
          · obtain ⟨ti, hti⟩ : ∃ ti, ti = cText l p2 e3 lim.t.toNat := ⟨_, rfl⟩
            have HTxt : Hid (∀ w1, CurAt w1 g b p2 e3 → Calls Tryd.prog 65 #[.pointer (some ⟨g, 0, none⟩), .int .i64 lim.t] w1 fun en w' => en = .returned (.string (Pl.str ti.1)) ∧ CurAt w' g b ti.2.1 ti.2.2 ∧ Upd (· = g) w1 w') := fun w1 h => by
              have := cur_text g b p2 e3 lim.t w1 h hp2 (by omega) (by omega) (by omega)
              rw [hd] at this; subst hti; exact this
            have hbd := cText_bd l p2 e3 lim.t.toNat (by omega)
            rw [← hti, hbl] at hbd
            obtain ⟨tr, p3, e4⟩ := ti
            simp only at HTxt hbd
            have hrs : (Pl.str tr).size ≤ b.size := by rw [str_size']; exact hbd.1
            have hgi : Hid ((texts ++ [Pl.str tr], p3, e4) = Pl.gTexts l lim.t.toNat (jn + 1) ([], pa, ea)) := by
              unfold Hid Pl.gTexts
              rw [← hI.out]
              unfold Pl.gT
              simp only
              rw [← hti]
            have HSz : Hid (∀ t ∈ texts ++ [Pl.str tr], t.size ≤ b.size) := by
              intro t ht
              rcases List.mem_append.1 ht with h | h
              · exact hSz.out t h
              · obtain rfl : t = Pl.str tr := by simpa using h
                exact hrs
            have hp3 := hbd.2
            clear hti hI hSz hbd hrs
            generalize Pl.str tr = r at *
            have tl : decide ((jn : Int) < st) = true := decide_eq_true (by omega)
            have HJ : Hid (jn < st) := hj
            have hjb : jn ≤ 100 := by have := HSt.out; omega
            go_upto_region 14 with (fail)
            all_goals
              have h0 : TW ⟨w, g, N, S, S + 1, b, lim, .slice UA si.length uc, ⟨si, st, sl, sm⟩⟩ p2 e3 p3 e4 ⟨kd, ints, texts, []⟩ vi vt (.slice none 0 0) (fun _ => false) wr.drew :=
                ⟨⟨hG.out.bs.cur, hG.out.bs.upd.drew, hG.out.bs.lr, hG.out.bs.rr, hG.out.bs.sr, hG.out.bs.sn⟩, fun _ => hG.out.own.ot, hG.out.own.oi, hG.out.own.ok, ⟨vt, hG.out.node, fun _ => rfl⟩⟩
              refine wp_region_v [(0, some 64), (1, some 65), (2, some 66), (3, some 67), (4, some 68), (5, some 69), (6, some 70), (7, some 71), (8, some 72), (9, none)] rfl (by kernel_rfl) rfl (TR ⟨w, g, N, S, S + 1, b, lim, .slice UA si.length uc, ⟨si, st, sl, sm⟩⟩ r ⟨kd, ints, texts, []⟩ vi vt (.slice none 0 0)) (TW ⟨w, g, N, S, S + 1, b, lim, .slice UA si.length uc, ⟨si, st, sl, sm⟩⟩ p2 e3 p3 e4 ⟨kd, ints, texts, []⟩ vi vt (.slice none 0 0)) h0 ?_ ?_
              · intro L v bb w' i o ho hL hd hC hW hR hE hN
                have hi : i < 10 := (Array.getElem?_eq_some_iff.1 ho).1
                have hgb := hOk.out.gb
                have hgN : g ≠ N := by have h1 := hOk.out.gl; have h2 := hOk.out.nl; simp only at h1 h2; omega
                have x0 : bb.tmps[0]?.getD undef = .pointer (some ⟨g, 0, none⟩) := hN 0 (by decide)
                have x11 : bb.tmps[11]?.getD undef = .pointer (some ⟨N, 0, none⟩) := hN 11 (by decide)
                clear h0 hG
                simp only at hgb
                obtain rfl | rfl | rfl | rfl | rfl | rfl | rfl | rfl | rfl | rfl : i = 0 ∨ i = 1 ∨ i = 2 ∨ i = 3 ∨ i = 4 ∨ i = 5 ∨ i = 6 ∨ i = 7 ∨ i = 8 ∨ i = 9 := by omega
                · cases ho
                  refine wp_val (.pointer (some ⟨N, 2, none⟩)) (w1 := w') (by go_simp) ⟨_, rfl, hW.same (by simp) (by simp) (by simp), fun j hj => ?_⟩
                  rcases hj with rfl | hj
                  · exact ⟨fun _ => rfl, by omega, by omega, by omega, by omega, by omega, by omega, by omega, by omega, by omega⟩
                  · exact (hR j hj).upd (fun e => by rw [e, hL] at hj; cases hj) _ (fun _ => by omega)
                · cases ho
                  have l7 : L 9 = false := by
                    cases h7 : L 9
                    · rfl
                    · have h5 := hC 9 _ rfl h7 ⟨7, .data⟩ (by simp) rfl
                      have h1 := hC 7 _ rfl h5 ⟨1, .data⟩ (by simp) rfl
                      rw [hL] at h1; cases h1
                  have l0 : L 0 = true := hd ⟨0, .data⟩ (by simp) rfl
                  have e0 : bb.tmps[64]?.getD undef = v 0 := hE 0 _ 64 rfl l0 rfl
                  rw [(hR 0 l0).r0 rfl] at e0
                  obtain ⟨u, hu1, hu2⟩ := hW.node
                  rw [hu2 l7] at hu1
                  have c1 : w'.cell? ⟨N, 2, none⟩ = some vt := (cells4 hu1).2.2.1
                  simp only at e0
                  have hvi : ∃ A n c, vt = .slice A n c := by
                    have h5 : L 7 = false := by
                      cases h5 : L 7
                      · rfl
                      · have h1 := hC 7 _ rfl h5 ⟨1, .data⟩ (by simp) rfl
                        rw [hL] at h1; cases h1
                    obtain ⟨A, c, h⟩ := own_slice (hW.ot h5)
                    exact ⟨A, _, c, h⟩
                  obtain ⟨vA, vn, vc, hve⟩ := hvi
                  refine wp_val vt (w1 := w') (by rw [hve] at c1 ⊢; go_simp) ⟨_, rfl, hW.same (by simp) (by simp) (by simp), fun j hj => ?_⟩
                  rcases hj with rfl | hj
                  · exact ⟨by omega, fun _ => rfl, by omega, by omega, by omega, by omega, by omega, by omega, by omega, by omega⟩
                  · exact (hR j hj).upd (fun e => by rw [e, hL] at hj; cases hj) _ (fun _ => by omega)
                · cases ho
                  refine wp_val (.pointer (some ⟨g, 0, none⟩)) (w1 := w') (by go_simp) ⟨_, rfl, hW.same (by simp) (by simp) (by simp), fun j hj => ?_⟩
                  rcases hj with rfl | hj
                  · exact ⟨by omega, by omega, fun _ => rfl, by omega, by omega, by omega, by omega, by omega, by omega, by omega⟩
                  · exact (hR j hj).upd (fun e => by rw [e, hL] at hj; cases hj) _ (fun _ => by omega)
                · cases ho
                  have x9 : bb.tmps[9]?.getD undef = .pointer (some ⟨w.heap.size, 0, none⟩) := hN 9 (by decide)
                  refine wp_val (.pointer (some ⟨w.heap.size, 4, none⟩)) (w1 := w') (by go_simp) ⟨_, rfl, hW.same (by simp) (by simp) (by simp), fun j hj => ?_⟩
                  rcases hj with rfl | hj
                  · exact ⟨by omega, by omega, by omega, fun _ => rfl, by omega, by omega, by omega, by omega, by omega, by omega⟩
                  · exact (hR j hj).upd (fun e => by rw [e, hL] at hj; cases hj) _ (fun _ => by omega)
                · cases ho
                  have l3 : L 3 = true := hd ⟨3, .data⟩ (by simp) rfl
                  have e3x : bb.tmps[67]?.getD undef = v 3 := hE 3 _ 67 rfl l3 rfl
                  rw [(hR 3 l3).r3 rfl] at e3x
                  have hlc := hW.bs.lcell
                  simp only at hlc e3x
                  refine wp_val (.int .i64 lim.t) (w1 := w') (by go_simp) ⟨_, rfl, hW.same (by simp) (by simp) (by simp), fun j hj => ?_⟩
                  rcases hj with rfl | hj
                  · exact ⟨by omega, by omega, by omega, by omega, fun _ => rfl, by omega, by omega, by omega, by omega, by omega⟩
                  · exact (hR j hj).upd (fun e => by rw [e, hL] at hj; cases hj) _ (fun _ => by omega)
                · cases ho
                  have l2 : L 2 = true := hd ⟨2, .data⟩ (by simp) rfl
                  have e2x : bb.tmps[66]?.getD undef = v 2 := hE 2 _ 66 rfl l2 rfl
                  rw [(hR 2 l2).r2 rfl] at e2x
                  have l4x : L 4 = true := hd ⟨4, .data⟩ (by simp) rfl
                  have e4y : bb.tmps[68]?.getD undef = v 4 := hE 4 _ 68 rfl l4x rfl
                  rw [(hR 4 l4x).r4 rfl] at e4y
                  simp only at e4y
                  have hcu := hW.bs.cur
                  simp only [hL, Bool.false_eq_true, if_false] at hcu
                  refine wp_call _ #[.pointer (some ⟨g, 0, none⟩), .int .i64 lim.t] (w1 := w') (by go_simp) ((HTxt.out w' hcu).mono ?_)
                  rintro en w2 ⟨rfl, hc2, hu2⟩
                  refine ⟨_, rfl, _, rfl, ?_, fun j hj => ?_⟩
                  · obtain ⟨u, hn1, hn2⟩ := hW.node
                    refine ⟨by simpa using hW.bs.step hOk.out hc2 hu2, fun h5 => own_turn hOk.out (hW.ot (by simpa using h5)) hu2 (fun k hk => by simp only; omega), own_turn hOk.out hW.oi hu2 (fun k hk => by simp only; omega), own_turn hOk.out hW.ok hu2 (fun k hk => by simp only; omega),
                      ⟨u, (hu2.block _ (Array.getElem?_eq_some_iff.1 hn1).1 (fun e => hgN e.symm)).trans hn1, fun h7 => hn2 (by simpa using h7)⟩⟩
                  · rcases hj with rfl | hj
                    · exact ⟨by omega, by omega, by omega, by omega, by omega, fun _ => rfl, by omega, by omega, by omega, by omega⟩
                    · refine TR.upd ((hR j hj).turn hu2 (fun _ k _ _ hg _ e => hg e.symm) (fun e5 k hk e => ?_) (fun _ e => hgN e.symm)) (fun e => by rw [e, hL] at hj; cases hj) _ (fun _ => by omega)
                      obtain ⟨A, d, _, ho⟩ := (hR j hj).r7 e5
                      have := own_ge ho k hk
                      simp only at this; omega
                · cases ho
                  have l3 : L 5 = true := hd ⟨5, .data⟩ (by simp) rfl
                  have e3x : bb.tmps[69]?.getD undef = v 5 := hE 5 _ 69 rfl l3 rfl
                  rw [(hR 5 l3).r5 rfl] at e3x
                  have l5 : L 7 = false := by
                    cases h5 : L 7
                    · rfl
                    · have h1 := hC 7 _ rfl h5 ⟨6, .data⟩ (by simp) rfl
                      rw [hL] at h1; cases h1
                  have hbw : Below w'.heap.size w' (w'.alloc (.cells #[.string r] 9)) := (Below.refl _ _).alloc (Nat.le_refl _) _
                  refine wp_val (.slice (some ⟨w'.heap.size, 0, none⟩) 1 1) (w1 := w'.alloc (.cells #[.string r] 9)) (by go_simp) ⟨_, rfl, ?_, fun j hj => ?_⟩
                  · obtain ⟨u, hn1, hn2⟩ := hW.node
                    refine ⟨by simpa using hW.bs.below hOk.out hbw, fun h5 => own_new (hW.ot l5) _, own_new hW.oi _, own_new hW.ok _, ⟨u, (Below.heap_alloc _ _ _ (Array.getElem?_eq_some_iff.1 hn1).1).trans hn1, fun h7 => hn2 (by simpa using h7)⟩⟩
                  · have hu2 : Upd (fun _ => False) w' (w'.alloc (.cells #[.string r] 9)) := Upd.of_below hbw
                    rcases hj with rfl | hj
                    · refine ⟨by omega, by omega, by omega, by omega, by omega, by omega, fun _ => ⟨w'.heap.size, rfl, heap_alloc_new _ _, fun e => by have := own_lt (hW.ot l5) _ e; omega, ?_, ?_⟩, by omega, by omega, by omega⟩
                      · have := hW.bs.cur.lt; simp only at this ⊢; omega
                      · obtain ⟨u, hn1, _⟩ := hW.node
                        have := (Array.getElem?_eq_some_iff.1 hn1).1; simp only at this ⊢; omega
                    · exact TR.upd ((hR j hj).turn hu2 (fun _ _ _ _ _ _ => id) (fun _ _ _ => id) (fun _ => id)) (fun e => by rw [e, hL] at hj; cases hj) _ (fun _ => by omega)
                · cases ho
                  have l1 : L 1 = true := hd ⟨1, .data⟩ (by simp) rfl
                  have l4 : L 6 = true := hd ⟨6, .data⟩ (by simp) rfl
                  have e1x : bb.tmps[65]?.getD undef = v 1 := hE 1 _ 65 rfl l1 rfl
                  have e4x : bb.tmps[70]?.getD undef = v 6 := hE 6 _ 70 rfl l4 rfl
                  rw [(hR 1 l1).r1 rfl] at e1x
                  obtain ⟨kk, h4, hrow, hne, hgk, hNk⟩ := (hR 6 l4).r6 rfl
                  rw [h4] at e4x
                  have hoi := hW.ot hL
                  obtain ⟨i0, hi0, hz0, hz1, hz2⟩ := info_parts infoStr
                  have l7 : L 9 = false := by
                    cases h7 : L 9
                    · rfl
                    · have h5 := hC 9 _ rfl h7 ⟨7, .data⟩ (by simp) rfl
                      rw [hL] at h5; cases h5
                  refine wp_append_lies w' (.tmp 65) (.tmp 70) 39 rfl (S + 1) 9 i0 (.string ⟨#[]⟩) 1 16 Tryd.underlying39 hi0 hz0 hz1 hz2 rfl (by decide) vt texts.length (strs texts) ((eval_get bb 65).trans e1x) hoi ⟨kk, 0, none⟩ 1 1 [.string r] ((eval_get bb 70).trans e4x) rfl ?_ (by simp [Value.oneCell']) (by decide) (by unfold maxLen; omega) (by omega) ?_ _ rfl ?_
                  · intro j u hj
                    have hj0 : j = 0 := by
                      rcases j with _ | j
                      · rfl
                      · simp at hj
                    subst hj0
                    simp at hj; subst hj
                    rw [show (⟨kk, 0, none⟩ : Addr).add 0 = ⟨kk, 0, none⟩ from rfl, cell_row hrow]; rfl
                  · have := (Array.getElem?_eq_some_iff.1 hW.bs.sr).1; simp only at this; omega
                  · intro g5 cap5 w2 hown hgrow _ _
                    have hu2 := Upd.grown hgrow
                    refine ⟨_, rfl, ?_, fun j hj => ?_⟩
                    · obtain ⟨u, hn1, hn2⟩ := hW.node
                      refine ⟨by simpa using hW.bs.row hOk.out hoi hu2, fun h5 => by simp at h5, hu2.own hW.oi (fun k hk e => own_apart hoi hW.oi (by decide) k e hk), hu2.own hW.ok (fun k hk e => own_apart hoi hW.ok (by decide) k e hk),
                        ⟨u, (hu2.block _ (Array.getElem?_eq_some_iff.1 hn1).1 (own_notRow hoi (notRow_of hn1 (by decide)))).trans hn1, fun h7 => hn2 (by simpa using h7)⟩⟩
                    · rcases hj with rfl | hj
                      · refine ⟨by omega, by omega, by omega, by omega, by omega, by omega, by omega, fun _ => ⟨_, _, rfl, ?_⟩, by omega, by omega⟩
                        simp only [if_true]
                        rw [strs_append]; exact hown
                      · refine TR.upd ((hR j hj).turn hu2 (fun _ k _ hv _ _ => hv) (fun e5 => by rw [e5, hL] at hj; cases hj) (fun e7 => by rw [e7, l7] at hj; cases hj)) (fun e => by rw [e, hL] at hj; cases hj) _ (fun e7 => by rw [e7, l7] at hj; cases hj)
                · cases ho
                  refine wp_val (.pointer (some ⟨N, 2, none⟩)) (w1 := w') (by go_simp) ⟨_, rfl, hW.same (by simp) (by simp) (by simp), fun j hj => ?_⟩
                  rcases hj with rfl | hj
                  · exact ⟨by omega, by omega, by omega, by omega, by omega, by omega, by omega, by omega, fun _ => rfl, by omega⟩
                  · exact (hR j hj).upd (fun e => by rw [e, hL] at hj; cases hj) _ (fun _ => by omega)
                · cases ho
                  have l5 : L 7 = true := hd ⟨7, .data⟩ (by simp) rfl
                  have l6 : L 8 = true := hd ⟨8, .data⟩ (by simp) rfl
                  have e5x : bb.tmps[71]?.getD undef = v 7 := hE 7 _ 71 rfl l5 rfl
                  have e6x : bb.tmps[72]?.getD undef = v 8 := hE 8 _ 72 rfl l6 rfl
                  rw [(hR 8 l6).r8 rfl] at e6x
                  obtain ⟨A5, d5, h5, hown⟩ := (hR 7 l5).r7 rfl
                  rw [h5] at e5x
                  obtain ⟨u, hn1, hn2⟩ := hW.node
                  have hu0 := hn2 hL
                  have c1 := (cells4 hn1).2.2.1
                  have f1 := frozen4 hn1 2
                  simp only at e6x e5x c1 f1
                  have hu2 := Upd.one w' N 2 (v 7)
                  have hnew := heap_setCell_same w' N 2 _ _ (v 7) hn1
                  rw [h5] at hu2 hnew
                  refine wp_skip (w1 := w'.setCell ⟨N, 2, none⟩ (.slice A5 (texts.length + 1) d5)) (by go_simp) ⟨_, rfl, ?_, fun j hj => ?_⟩
                  · have hbx := hW.bs.box hOk.out 2 (.slice A5 (texts.length + 1) d5)
                    refine ⟨by simpa using hbx, fun h5 => by simp [l5] at h5, own_turn hOk.out hW.oi hu2 (fun k hk => by simp only; omega), own_turn hOk.out hW.ok hu2 (fun k hk => by simp only; omega), ⟨_, hnew, fun h7 => by simp at h7⟩⟩
                  · rcases hj with rfl | hj
                    · refine ⟨by omega, by omega, by omega, by omega, by omega, by omega, by omega, by omega, by omega, fun _ => ?_⟩
                      rw [if_neg (by decide), h5]; exact hnew
                    · refine TR.upd ((hR j hj).turn hu2 (fun _ k _ _ _ hNk e => hNk e.symm) (fun e5 k hk e => ?_) (fun e7 => by rw [e7, hL] at hj; cases hj)) (fun e => by rw [e, hL] at hj; cases hj) _ (fun _ => by omega)
                      have := own_ge hown k hk
                      simp only at this; omega
              · intro L v w' hall hW hR
                have y3 := (hR 3 (by decide)).r3 rfl
                have y4 := (hR 4 (by decide)).r4 rfl
                have v0 := (hR 0 (by decide)).r0 rfl
                have v1 := (hR 1 (by decide)).r1 rfl
                have v2 := (hR 2 (by decide)).r2 rfl
                have v3 := (hR 5 (by decide)).r5 rfl
                obtain ⟨kk, v4, _⟩ := (hR 6 (by decide)).r6 rfl
                obtain ⟨A5, d5, v5, hown⟩ := (hR 7 (by decide)).r7 rfl
                have v6 := (hR 8 (by decide)).r8 rfl
                have h7 := (hR 9 (by decide)).r9 rfl
                have hb7 := hW.bs
                rw [hall 5 (by decide)] at hb7
                simp only [if_true] at hb7
                rw [v5] at hown h7
                have hGn : Hid (GetS ⟨w, g, N, S, S + 1, b, lim, .slice UA si.length uc, ⟨si, st, sl, sm⟩⟩ p3 e4 ⟨kd, ints, texts ++ [r], []⟩ vi (.slice A5 (texts.length + 1) d5) (.slice none 0 0) w') := ⟨hb7, h7, ⟨hW.oi, by rw [List.length_append]; exact hown, hW.ok⟩⟩
                clear hR hW hown h7 hb7 h0 hG
                simp only [putL, Act.put, if_true, v0, v1, v2, y3, y4, v3, v4, v5, v6]
                go_simp
                go_wp2_with fail
                go_roundw
                case rel => exact ⟨jn + 1, texts ++ [r], _, p3, e4, HJ.out, by simp [htl], by go_num, hp3, hgi, HSz, hGn⟩
                case measure => have := HJ.out; simp [intOf]; omega
          · obtain rfl : jn = st := by omega
            clear hj hjn
            have c2 := hG.out.ncells.2.2.1
            have c3 := hG.out.bs.scells.2.1
            simp only at c2 c3
            obtain ⟨tA, tc, rfl⟩ := own_slice hG.out.own.ot
            simp only [htl] at c2
            obtain ⟨fe, hfe⟩ : ∃ fe, fe = Pl.fieldErr [] texts 0 ⟨[], texts.length, 0, -1⟩ := ⟨_, rfl⟩
            have HTw : Lib.Utf8Tabs 0 1 wr := tabs_upd HT.out hG.out.bs.upd (by simp only; omega) (by simp only; omega)
            have HCk : Hid (Calls Tryd.prog 66 #[.agg #[.int .i64 0, (.slice none 0 0), .slice tA texts.length tc, (.slice none 0 0)], .agg #[(.slice none 0 0), .int .i64 texts.length, .int .i64 0, .int .i64 (-1)]] wr fun en w' => en = .returned (.int .i64 fe) ∧ Below wr.heap.size wr w') := by
              have := fld_check 0 (.slice none 0 0) (.slice tA texts.length tc) none 0 0 (.slice none 0 0) [] texts ⟨[], texts.length, 0, -1⟩ wr HTw (RNums.nil _) (own_strs hG.out.own.ot) (RNums.nil _) (by simp) (by simp) (by rw [htl]; omega) (fun t ht => by have := hSz.out t ht; omega) (by simp) (by simp) (by rw [htl]; simp only; omega)
              rw [← hfe] at this
              exact this
            clear HTw
            obtain ⟨e5, he5⟩ : ∃ e5, e5 = (if fe ≠ 0 then cFail e3 fe else e3) := ⟨_, rfl⟩
            have HE5 := Lib.hid he5
            have HFE := Lib.hid hfe
            clear hfe he5
            rw [htl] at HCk
            go_wp2_with fail
            refine HCk.out.mono ?_
            rintro en w6 ⟨rfl, hb6⟩
            have hG6 := Lib.hid (hG.out.below hOk.out hb6)
            clear hb6 hG HCk c2 c3
            go_upto_if 82 with (fail)
            go_cut [] (fun wx => Hid (GetS ⟨w, g, N, S, S + 1, b, lim, .slice UA si.length uc, ⟨si, jn, sl, sm⟩⟩ p2 e5 ⟨kd, ints, texts, []⟩ vi (.slice tA texts.length tc) (.slice none 0 0) wx))
            case first =>
              by_cases hz : fe = 0
              · subst hz
                go_wp2_with fail
                go_meet
                have := HE5.out
                rw [if_neg (by simp)] at this
                rw [this]; exact hG6
              · have tz : (fe != 0) = true := by simpa using hz
                go_wp2_with fail
                refine (cur_fail g b p2 e3 fe _ hG6.out.bs.cur).mono ?_
                rintro en w7 ⟨rfl, hc7, hu7⟩
                have hG7 := Lib.hid (hG6.out.step hOk.out hc7 hu7)
                clear hc7 hu7 hG6
                go_wp2_with fail
                go_meet
                have := HE5.out
                rw [if_pos hz] at this
                rw [this]; exact hG7
            case rest =>
              clear hG6
              have hbu := cUint_bd l p2 e5 edges (by omega)
              obtain ⟨ku, hku⟩ : ∃ ku, ku = cUint l p2 e5 edges := ⟨_, rfl⟩
              have HU2 : Hid (∀ w1, CurAt w1 g b p2 e5 → Calls Tryd.prog 44 #[.pointer (some ⟨g, 0, none⟩), .int .u64 edges] w1 fun en w' => en = .returned (.int .i64 ku.1) ∧ CurAt w' g b ku.2.1 ku.2.2 ∧ Upd (· = g) w1 w') := fun w1 h => by
                have := cur_uint g b p2 e5 edges w1 h hp2 (by omega) (by omega)
                rw [hd] at this; subst hku; exact this
              rw [← hku, hbl] at hbu
              obtain ⟨kn, p4, e6⟩ := ku
              simp only at HU2 hbu
              obtain ⟨hkn1, hkn2, hp4⟩ := hbu
              have HKu := Lib.hid hku
              clear hku
              have ewe : IntKind.u64.wrap (edges : Int) = edges := Pl.wraps_u64 _ (by omega) (by omega)
              go_wp2_with fail
              refine (HU2.out _ hcut.out.bs.cur).mono ?_
              rintro en w8 ⟨rfl, hc8, hu8⟩
              have hG8 := Lib.hid (hcut.out.step hOk.out hc8 hu8)
              clear hc8 hu8 hcut HU2
              obtain ⟨qc, hqc⟩ : ∃ qc : Bool, (qc = true ↔ ((kn : Int) < sl ∨ (0 ≤ sm ∧ sm < kn))) := ⟨decide _, decide_eq_true_iff⟩
              have s2 : w8.cell? ⟨S, 2, none⟩ = some (.int .i64 sl) := hG8.out.bs.scells.2.2.1
              have s3 : w8.cell? ⟨S, 3, none⟩ = some (.int .i64 sm) := hG8.out.bs.scells.2.2.2
              go_upto_region 20 with (fail)
              go_cut [104] (fun s104 wx => s104 = .bool qc ∧ w8 = wx)
              case first =>
                by_cases h1 : (kn : Int) < sl
                · have t1 : decide ((kn : Int) < sl) = true := decide_eq_true h1
                  have t2 : decide (kn < sl) = true := decide_eq_true (by omega)
                  obtain rfl : qc = true := hqc.2 (.inl h1)
                  go_wp2_with fail
                  go_meet
                  exact ⟨rfl, rfl⟩
                · have t1 : decide ((kn : Int) < sl) = false := decide_eq_false h1
                  have t2 : decide (kn < sl) = false := decide_eq_false (by omega)
                  by_cases h2 : 0 ≤ sm
                  · have t3 : decide (0 ≤ sm) = true := decide_eq_true h2
                    by_cases h3 : sm < kn
                    · have t4 : decide (sm < (kn : Int)) = true := decide_eq_true h3
                      obtain rfl : qc = true := hqc.2 (.inr ⟨h2, h3⟩)
                      go_wp2_with fail
                      go_meet
                      exact ⟨rfl, rfl⟩
                    · have t4 : decide (sm < (kn : Int)) = false := decide_eq_false h3
                      obtain rfl : qc = false := by
                        cases qc
                        · rfl
                        · rcases hqc.1 rfl with h | h
                          · exact absurd h h1
                          · exact absurd h.2 h3
                      go_wp2_with fail
                      go_meet
                      exact ⟨rfl, rfl⟩
                  · have t3 : decide (0 ≤ sm) = false := decide_eq_false h2
                    obtain rfl : qc = false := by
                      cases qc
                      · rfl
                      · rcases hqc.1 rfl with h | h
                        · exact absurd h h1
                        · exact absurd h.1 h2
                    go_wp2_with fail
                    go_meet
                    exact ⟨rfl, rfl⟩
              case rest =>
                obtain ⟨rfl, rfl⟩ := hcut
                obtain ⟨e7, he7⟩ : ∃ e7, e7 = (if qc then cFail e6 12 else e6) := ⟨_, rfl⟩
                have HE7 := Lib.hid he7
                have HQ := Lib.hid hqc
                clear he7 hqc s2 s3
                go_upto_if 104 with (fail)
                go_cut [] (fun wx => Hid (GetS ⟨w, g, N, S, S + 1, b, lim, .slice UA si.length uc, ⟨si, jn, sl, sm⟩⟩ p4 e7 ⟨kd, ints, texts, []⟩ vi (.slice tA texts.length tc) (.slice none 0 0) wx))
                case first =>
                  cases qc
                  · go_wp2_with fail
                    go_meet
                    have := HE7.out
                    simp only [Bool.false_eq_true, if_false] at this
                    rw [this]; exact hG8
                  · go_wp2_with fail
                    refine (cur_fail g b p4 e6 12 _ hG8.out.bs.cur).mono ?_
                    rintro en w9 ⟨rfl, hc9, hu9⟩
                    have hG9 := Lib.hid (hG8.out.step hOk.out hc9 hu9)
                    clear hc9 hu9 hG8
                    go_wp2_with fail
                    go_meet
                    have := HE7.out
                    simp only [if_true] at this
                    rw [this]; exact hG9
                case rest =>
                  clear hG8
                  go_wp2_with fail
                  go_loopw [17] (fun i wi => ∃ (m : Nat) (kids : List Int) (vk : Value) (p5 : Nat) (e8 : Int), m ≤ kn ∧ kids.length = m ∧ i = .int .i64 m ∧ p5 ≤ b.size ∧ Hid (Pl.gKids l at_ count (kn - m) (kids, p5, e8) = Pl.gKids l at_ count kn ([], p4, e7)) ∧
                    Hid (GetS ⟨w, g, N, S, S + 1, b, lim, .slice UA si.length uc, ⟨si, jn, sl, sm⟩⟩ p5 e8 ⟨kd, ints, texts, kids⟩ vi (.slice tA texts.length tc) vk wi)) (fun i _ => kn - (intOf i).toNat)
                  case atStart => exact ⟨0, [], _, p4, e7, by omega, rfl, rfl, hp4, rfl, hcut⟩
                  case round =>
                    clear hcut
                    obtain ⟨m, kids, vk, p5, e8, hm, hkl, rfl, hp5, hK, hG⟩ := hrel
                    have HKL := Lib.hid hkl
                    have hkb : kids.length ≤ 16777216 := by omega
                    clear hkl
                    have hce := Lib.hid (cur_err g b p5 e8 wr hG.out.bs.cur)
                    by_cases hgo : m < kn ∧ e8 = 0
                    · obtain ⟨hlt, rfl⟩ := hgo
                      have tl : decide ((m : Int) < kn) = true := decide_eq_true (by omega)
                      have tl2 : decide (m < kn) = true := decide_eq_true hlt
                      have HLT : Hid (m < kn) := hlt
                      have hbu := cUint_bd l p5 0 16777216 (by omega)
                      obtain ⟨ku, hku⟩ : ∃ ku, ku = cUint l p5 0 16777216 := ⟨_, rfl⟩
                      have HU3 := Lib.hid (cur_uint g b p5 0 16777216 wr hG.out.bs.cur hp5 (by omega) (by omega))
                      rw [hd, ← hku] at HU3
                      rw [← hku, hbl] at hbu
                      have hgk : Pl.gKids l at_ count (kn - m) (kids, p5, 0) = Pl.gKids l at_ count (kn - (m + 1)) (kids ++ [(ku.1 : Int)], ku.2.1, if ku.1 ≤ at_ ∨ count ≤ ku.1 then cFail ku.2.2 13 else ku.2.2) := by
                        rw [show kn - m = (kn - (m + 1)) + 1 from by omega]
                        unfold Pl.gKids
                        rw [if_pos rfl]
                        unfold Pl.gK
                        simp only
                        rw [← hku]
                        cases kn - (m + 1) <;> rfl
                      rw [hK.out] at hgk
                      obtain ⟨kv, p6, e9⟩ := ku
                      simp only at HU3 hbu hgk
                      obtain ⟨_, hkv, hp6⟩ := hbu
                      clear hku hK
                      go_wp2_with fail
                      refine hce.out.mono ?_
                      rintro en w10 ⟨rfl, rfl⟩
                      go_wp2_with fail
                      refine HU3.out.mono ?_
                      rintro en w11 ⟨rfl, hc11, hu11⟩
                      have hG11 := Lib.hid (hG.out.step hOk.out hc11 hu11)
                      clear hc11 hu11 hG HU3 hce
                      obtain ⟨q2, hq2⟩ : ∃ q2 : Bool, (q2 = true ↔ (kv ≤ at_ ∨ count ≤ kv)) := ⟨decide _, decide_eq_true_iff⟩
                      obtain ⟨e10, he10⟩ : ∃ e10, e10 = (if kv ≤ at_ ∨ count ≤ kv then cFail e9 13 else e9) := ⟨_, rfl⟩
                      rw [← he10] at hgk
                      have HGK := Lib.hid hgk
                      have HE10 := Lib.hid he10
                      clear hgk he10
                      go_upto_region 26 with (fail)
                      go_cut [126] (fun s126 wx => s126 = .bool q2 ∧ w11 = wx)
                      case first =>
                        by_cases h1 : kv ≤ at_
                        · have t1 : decide ((kv : Int) ≤ at_) = true := decide_eq_true (by omega)
                          have t2 : decide (kv ≤ at_) = true := decide_eq_true h1
                          obtain rfl : q2 = true := hq2.2 (.inl h1)
                          go_wp2_with fail
                          go_meet
                          exact ⟨rfl, rfl⟩
                        · have t1 : decide ((kv : Int) ≤ at_) = false := decide_eq_false (by omega)
                          have t2 : decide (kv ≤ at_) = false := decide_eq_false h1
                          by_cases h2 : count ≤ kv
                          · have t3 : decide ((count : Int) ≤ kv) = true := decide_eq_true (by omega)
                            have t4 : decide (count ≤ kv) = true := decide_eq_true h2
                            obtain rfl : q2 = true := hq2.2 (.inr h2)
                            go_wp2_with fail
                            go_meet
                            exact ⟨rfl, rfl⟩
                          · have t3 : decide ((count : Int) ≤ kv) = false := decide_eq_false (by omega)
                            have t4 : decide (count ≤ kv) = false := decide_eq_false h2
                            obtain rfl : q2 = false := by
                              cases q2
                              · rfl
                              · rcases hq2.1 rfl with h | h
                                · exact absurd h h1
                                · exact absurd h h2
                            go_wp2_with fail
                            go_meet
                            exact ⟨rfl, rfl⟩
                      case rest =>
                        obtain ⟨rfl, rfl⟩ := hcut
                        have HQ2 := Lib.hid hq2
                        clear hq2
                        go_upto_if 126 with (fail)
                        go_cut [] (fun wx => Hid (GetS ⟨w, g, N, S, S + 1, b, lim, .slice UA si.length uc, ⟨si, jn, sl, sm⟩⟩ p6 e10 ⟨kd, ints, texts, kids⟩ vi (.slice tA texts.length tc) vk wx))
                        case first =>
                          cases q2
                          · have hn : ¬ (kv ≤ at_ ∨ count ≤ kv) := fun h => by have := HQ2.out.2 h; cases this
                            have he := HE10.out
                            rw [if_neg hn] at he
                            clear hn
                            go_wp2_with fail
                            go_meet
                            rw [he]; exact hG11
                          · have hn := HQ2.out.1 rfl
                            have he := HE10.out
                            rw [if_pos hn] at he
                            clear hn
                            go_wp2_with fail
                            refine (cur_fail g b p6 e9 13 _ hG11.out.bs.cur).mono ?_
                            rintro en w12 ⟨rfl, hc12, hu12⟩
                            have hG12 := Lib.hid (hG11.out.step hOk.out hc12 hu12)
                            clear hc12 hu12 hG11
                            go_wp2_with fail
                            go_meet
                            rw [he]; exact hG12
                        case rest =>
                          clear hG11
                          have c3 : wc.cell? ⟨N, 3, none⟩ = some vk := hcut.out.ncells.2.2.2
                          have hok := hcut.out.own.ok
                          simp only at hok
                          obtain ⟨kA, kc, rfl⟩ := own_slice hok
                          have HOk2 := Lib.hid hok
                          have hBs : Hid (S + 1 ≤ wc.heap.size) := by have := (Array.getElem?_eq_some_iff.1 hcut.out.bs.sr).1; simp only at this; exact this
                          clear hok
                          go_wp2_with (at_builtin; refine app_new_at (.tmp 130) (.tmp 132) 41 3 (.int .i64 0) 1 8 Tryd.underlying41 infoInt rfl (by decide) rfl rfl rfl HOk2.out hBs.out [.int .i64 kv] 1 rfl rfl ?c2 ?c3 (by decide) ?_; (case c2 => simp [Value.oneCell']); (case c3 => omega))
                          intro v13 w13 hO13 hU13 _
                          obtain ⟨A5, c5, rfl⟩ := own_slice hO13
                          have hok := HOk2.out
                          have hB13 := hcut.out.bs.row hOk.out hok hU13
                          have hN13 : w13.heap[N]? = some (.cells #[.int .i64 kd, vi, .slice tA texts.length tc, .slice kA kids.length kc] 43 (0, 0)) := (hU13.block _ (Array.getElem?_eq_some_iff.1 hcut.out.node).1 (own_notRow hok (notRow_of hcut.out.node (by decide)))).trans hcut.out.node
                          have d3 := (cells4 hN13).2.2.2
                          have f3 := frozen4 hN13 3
                          have hu14 := Upd.one w13 N 3 (.slice A5 (kids.length + 1) c5)
                          have hgb := hOk.out.gb
                          simp only at hgb
                          have hG14 : Hid (GetS ⟨w, g, N, S, S + 1, b, lim, .slice UA si.length uc, ⟨si, jn, sl, sm⟩⟩ p6 e10 ⟨kd, ints, texts, kids ++ [(kv : Int)]⟩ vi (.slice tA texts.length tc) (.slice A5 (kids.length + 1) c5) (w13.setCell ⟨N, 3, none⟩ (.slice A5 (kids.length + 1) c5))) := by
                            refine ⟨hB13.box hOk.out 3 _, heap_setCell_same w13 N 3 _ _ _ hN13, ⟨own_turn hOk.out (hU13.own hcut.out.own.oi (fun k hk e => own_apart hok hcut.out.own.oi (by decide) k e hk)) hu14 (fun k hk => by simp only; omega),
                              own_turn hOk.out (hU13.own hcut.out.own.ot (fun k hk e => own_apart hok hcut.out.own.ot (by decide) k e hk)) hu14 (fun k hk => by simp only; omega), own_turn hOk.out ?_ hu14 (fun k hk => by simp only; omega)⟩⟩
                            simp only [List.length_append, List.length_singleton, i64s_append]
                            exact hO13
                          clear hok hB13 hN13 hu14 hO13 hU13 hcut HOk2 c3 hBs
                          go_wp2_with fail
                          go_roundw
                          case rel => exact ⟨m + 1, kids ++ [(kv : Int)], _, p6, e10, HLT.out, by simp [HKL.out], by go_num, hp6, HGK.out.symm, hG14⟩
                          case measure => have := HLT.out; simp [intOf]; omega
                    · have hend : Hid (Pl.gKids l at_ count kn ([], p4, e7) = (kids, p5, e8)) := by
                        have := hK.out
                        unfold Hid
                        rw [← this]
                        rcases Nat.lt_or_ge m kn with h | h
                        · rw [show kn - m = (kn - (m + 1)) + 1 from by omega]
                          unfold Pl.gKids
                          rw [if_neg (fun h2 => hgo ⟨h, h2⟩)]
                        · rw [show kn - m = 0 from by omega]; rfl
                      obtain ⟨a0, a1, a2, a3⟩ := hG.out.ncells
                      have hrr := hG.out.bs.rr
                      obtain ⟨z0, z1, z2, z3⟩ := cells4 hrr
                      have f0 := frozen4 hrr 0
                      have f1 := frozen4 hrr 1
                      have f2 := frozen4 hrr 2
                      have f3 := frozen4 hrr 3
                      simp only at a0 a1 a2 a3 z0 z1 z2 z3 f0 f1 f2 f3
                      obtain ⟨vA, vc, rfl⟩ := own_slice hG.out.own.oi
                      obtain ⟨kA, kc, rfl⟩ := own_slice hG.out.own.ok
                      have hfin0 := set4 hrr (.int .i64 kd) (.slice vA ints.length vc) (.slice tA texts.length tc) (.slice kA kids.length kc)
                      rw [hil, htl] at hfin0
                      have hfin := Lib.hid hfin0
                      clear hfin0
                      have hE : Hid (Pl.oldGet l p e at_ count edges lim = (⟨kd, ints, texts, kids⟩, p5, e8)) := by
                        have hq7 : e7 = if (kn : Int) < sl ∨ (0 ≤ sm ∧ sm < kn) then cFail e6 12 else e6 := by
                          rw [HE7.out]
                          by_cases hc : (kn : Int) < sl ∨ (0 ≤ sm ∧ sm < kn)
                          · rw [if_pos hc, if_pos (HQ.out.2 hc)]
                          · rw [if_neg hc, if_neg (fun h => hc (HQ.out.1 h))]
                        have hf5 := HFE.out
                        rw [htl] at hf5
                        unfold Hid Pl.oldGet
                        simp only
                        rw [← HR1.out]
                        simp only
                        rw [← HSP.out, ← HSO.out]
                        simp only
                        rw [← HE2.out, ← hia.out]
                        simp only
                        rw [← hI.out]
                        simp only
                        rw [← hf5, ← HE5.out, ← HKu.out]
                        simp only
                        rw [← hq7, hend.out]
                      have hfn := hG.out.fin hOk.out (.int .i64 kd) (.slice vA ints.length vc) (.slice tA texts.length tc) (.slice kA kids.length kc)
                      simp only at hfn
                      rw [hil, htl] at hfn
                      have HFN := Lib.hid hfn
                      clear hrr hK hG hfn hend
                      rcases Nat.lt_or_ge m kn with h | h
                      · have h8 : e8 ≠ 0 := fun e => hgo ⟨h, e⟩
                        have tl : decide ((m : Int) < kn) = true := decide_eq_true (by omega)
                        have tl2 : decide (m < kn) = true := decide_eq_true h
                        have te : (e8 == 0) = false := by simpa using h8
                        clear hgo
                        go_wp2_with fail
                        refine hce.out.mono ?_
                        rintro en w10 ⟨rfl, rfl⟩
                        go_wp2_with fail
                        exact bodyPost_ret (v := .agg #[.int .i64 kd, .slice vA si.length vc, .slice tA jn tc, .slice kA kids.length kc]) (results_cell_row rfl _ _ (w.heap.size + 1) 43 _ (0, 0) _ rfl hfin.out Tryd.underlying43 rfl rfl) rfl (by rw [hE.out]; exact ⟨⟨_, _, _, rfl, HFN.out.1⟩, HFN.out.2.1, HFN.out.2.2⟩)
                      · have tl : decide ((m : Int) < kn) = false := decide_eq_false (by omega)
                        have tl2 : decide (m < kn) = false := decide_eq_false (by omega)
                        clear hgo hce
                        go_wp2_with fail
                        exact bodyPost_ret (v := .agg #[.int .i64 kd, .slice vA si.length vc, .slice tA jn tc, .slice kA kids.length kc]) (results_cell_row rfl _ _ (w.heap.size + 1) 43 _ (0, 0) _ rfl hfin.out Tryd.underlying43 rfl rfl) rfl (by rw [hE.out]; exact ⟨⟨_, _, _, rfl, HFN.out.1⟩, HFN.out.2.1, HFN.out.2.2⟩)
end Go.Proofs.YtdejljgoebcmpaaDoor
/- oldfile.scene: what it computes; its memory. -/
namespace Go.Proofs.YtdejljgoebcmpaaDoor
open Go.RowKit

namespace Pl
/-- The nodes that stand there: so many more, from a place on. -/
def oldNodes (l : Bytes) (count : Nat) (lim : Lim) : Nat → Nat → Nat → Nat → Int → List Node → List Node × Nat × Int
  | 0, _, _, p, e, ns => (ns, p, e)
  | k + 1, at_, edges, p, e, ns =>
    if e = 0 then
      let r := oldGet l p e at_ count edges lim
      oldNodes l count lim k (at_ + 1) (edges - r.1.kids.length) r.2.1 r.2.2 (ns ++ [r.1])
    else (ns, p, e)
/-- The scene of a payload; the error. -/
noncomputable def oldScene (l : Bytes) (lim : Lim) : Scene × Int :=
  let r := cUint l 0 0 lim.n.toNat
  let e1 := if r.1 = 0 then cFail r.2.2 13 else r.2.2
  let q := oldNodes l r.1 lim r.1 0 lim.e.toNat r.2.1 e1 []
  let e2 := if q.2.1 < l.length then cFail q.2.2 8 else q.2.2
  if e2 ≠ 0 then (⟨[], 0⟩, e2) else if (oldValid ⟨q.1, 0⟩ lim).1 ≠ 0 then (⟨[], 0⟩, (oldValid ⟨q.1, 0⟩ lim).1) else (⟨q.1, 0⟩, 0)

/-- A step of reading: it ends right only if it began so, and it doesn't go back. -/
theorem cFail_zero {e k : Int} (h : cFail e k = 0) (hk : k ≠ 0) : False := by
  unfold cFail at h; split at h <;> omega
theorem cNum_zero {l : Bytes} {p : Nat} {e : Int} (hp : p ≤ l.length) (h : (cNum l p e).2.2 = 0) : e = 0 ∧ p < (cNum l p e).2.1 := by
  unfold cNum at *
  by_cases he : e = 0
  · rw [if_neg (by simpa using he)] at *
    simp only at h ⊢
    exact ⟨he, (vGet_bd l p hp).2.2 (by omega)⟩
  · rw [if_pos he] at h; exact absurd h he
theorem cUint_zero {l : Bytes} {p : Nat} {e : Int} {m : Nat} (hp : p ≤ l.length) (h : (cUint l p e m).2.2 = 0) : e = 0 ∧ p < (cUint l p e m).2.1 := by
  have h1 := @cNum_zero l p e hp
  unfold cUint at *
  simp only at *
  split at h
  · rename_i h2; exact absurd h h2
  · rename_i h2
    split at h
    · simp at h
    · rename_i h3
      rw [if_neg h2, if_neg h3]
      exact h1 (by simpa using h2)
theorem cInt_zero {l : Bytes} {p : Nat} {e : Int} (hp : p ≤ l.length) (h : (cInt l p e).2.2 = 0) : e = 0 ∧ p < (cInt l p e).2.1 := by
  have h1 := @cNum_zero l p e hp
  unfold cInt at *
  simp only at *
  split at h
  · rename_i h2; exact absurd h h2
  · rename_i h2
    rw [if_neg h2]
    exact h1 (by simpa using h2)
theorem cText_zero {l : Bytes} {p : Nat} {e : Int} {m : Nat} (hp : p ≤ l.length) (h : (cText l p e m).2.2 = 0) : e = 0 ∧ p < (cText l p e m).2.1 := by
  unfold cText at *
  simp only at *
  split at h
  · rename_i h2; exact absurd h h2
  · rename_i h2
    rw [if_neg h2]
    have h3 : (cUint l p e m).2.2 = 0 ∧ (cUint l p e m).2.1 ≤ (cBytes l (cUint l p e m).2.1 (cUint l p e m).2.2 (cUint l p e m).1).2.1 := by
      unfold cBytes at h ⊢
      by_cases h4 : (cUint l p e m).2.2 = 0
      · rw [if_neg (by simpa using h4)] at *
        refine ⟨h4, ?_⟩
        split
        · exact Nat.le_refl _
        · split
          · exact Nat.le_refl _
          · simp
      · rw [if_pos h4] at h; exact absurd h h4
    have := cUint_zero hp h3.1
    omega
theorem gInts_zero {l : Bytes} {cs : List Int} : ∀ {st : St Int}, st.2.1 ≤ l.length → (gInts l cs st).2.2 = 0 → st.2.2 = 0 ∧ st.2.1 ≤ (gInts l cs st).2.1 := by
  induction cs with
  | nil => intro st _ h; exact ⟨h, Nat.le_refl _⟩
  | cons c cs ih =>
    intro st hp h
    have h1 : gInts l (c :: cs) st = gInts l cs (gI l st c) := rfl
    rw [h1] at h ⊢
    have hb := cInt_bd l st.2.1 st.2.2 hp
    have h2 := ih (st := gI l st c) hb h
    unfold gI at h2
    simp only at h2
    have h3 : (cInt l st.2.1 st.2.2).2.2 = 0 := by
      have := h2.1
      split at this
      · exact this
      · exact (cFail_zero this (by decide)).elim
    have h4 := cInt_zero hp h3
    exact ⟨h4.1, by have := h2.2; unfold gI; omega⟩
theorem gInts_bd {l : Bytes} {cs : List Int} : ∀ {st : St Int}, st.2.1 ≤ l.length → (gInts l cs st).2.1 ≤ l.length ∧ (gInts l cs st).1.length = st.1.length + cs.length := by
  induction cs with
  | nil => intro st h; exact ⟨h, by simp [gInts]⟩
  | cons c cs ih =>
    intro st hp
    have h1 : gInts l (c :: cs) st = gInts l cs (gI l st c) := rfl
    rw [h1]
    have h2 := ih (st := gI l st c) (cInt_bd l st.2.1 st.2.2 hp)
    refine ⟨h2.1, ?_⟩
    rw [h2.2]
    unfold gI
    simp; omega
theorem gTexts_bd {l : Bytes} {lim : Nat} {st : St ByteArray} (hp : st.2.1 ≤ l.length) (hs : ∀ t ∈ st.1, t.size ≤ l.length) : ∀ k, (gTexts l lim k st).2.1 ≤ l.length ∧ (gTexts l lim k st).1.length = st.1.length + k ∧ (∀ t ∈ (gTexts l lim k st).1, t.size ≤ l.length) ∧
    ((gTexts l lim k st).2.2 = 0 → st.2.2 = 0 ∧ st.2.1 ≤ (gTexts l lim k st).2.1)
  | 0 => ⟨hp, rfl, hs, fun h => ⟨h, Nat.le_refl _⟩⟩
  | k + 1 => by
    have ih := gTexts_bd (lim := lim) hp hs k
    have hb := cText_bd l (gTexts l lim k st).2.1 (gTexts l lim k st).2.2 lim ih.1
    show (gT l lim (gTexts l lim k st)).2.1 ≤ _ ∧ _
    refine ⟨hb.2, ?_, fun t ht => ?_, fun h => ?_⟩
    · show (gT l lim (gTexts l lim k st)).1.length = _
      unfold gT; simp [ih.2.1]; omega
    · have ht' : t ∈ (gTexts l lim k st).1 ++ [str (cText l (gTexts l lim k st).2.1 (gTexts l lim k st).2.2 lim).1] := ht
      rcases List.mem_append.1 ht' with h | h
      · exact ih.2.2.1 t h
      · obtain rfl : t = str (cText l (gTexts l lim k st).2.1 (gTexts l lim k st).2.2 lim).1 := by simpa using h
        rw [str_size']; exact hb.1
    · have h1 := cText_zero ih.1 (show (cText l (gTexts l lim k st).2.1 (gTexts l lim k st).2.2 lim).2.2 = 0 from h)
      have h2 := ih.2.2.2 h1.1
      exact ⟨h2.1, Nat.le_trans h2.2 (Nat.le_of_lt h1.2)⟩
theorem gKids_bd {l : Bytes} {a c : Nat} : ∀ (k : Nat) {st : St Int}, st.2.1 ≤ l.length → (gKids l a c k st).2.1 ≤ l.length ∧ (gKids l a c k st).1.length ≤ st.1.length + k ∧
    ((gKids l a c k st).2.2 = 0 → st.2.2 = 0 ∧ st.2.1 + k ≤ (gKids l a c k st).2.1 ∧ (gKids l a c k st).1.length = st.1.length + k)
  | 0, st, hp => ⟨hp, Nat.le_refl _, fun h => ⟨h, Nat.le_refl _, rfl⟩⟩
  | k + 1, st, hp => by
    unfold gKids
    by_cases h0 : st.2.2 = 0
    · rw [if_pos h0]
      have hb := (cUint_bd l st.2.1 st.2.2 16777216 hp).2.2
      have ih := gKids_bd k (l := l) (a := a) (c := c) (st := gK l a c st) hb
      have hl : (gK l a c st).1.length = st.1.length + 1 := by unfold gK; simp
      refine ⟨ih.1, by have := ih.2.1; omega, fun h => ?_⟩
      have h1 := ih.2.2 h
      have h2 : (cUint l st.2.1 st.2.2 16777216).2.2 = 0 := by
        have := h1.1
        unfold gK at this
        simp only at this
        split at this
        · exact (cFail_zero this (by decide)).elim
        · exact this
      have h3 := cUint_zero hp h2
      have h4 : (gK l a c st).2.1 = (cUint l st.2.1 st.2.2 16777216).2.1 := rfl
      exact ⟨h3.1, by omega, by omega⟩
    · rw [if_neg h0]
      exact ⟨hp, by omega, fun h => absurd h h0⟩
/-- A node that was read. -/
theorem oldGet_bd {l : Bytes} {p : Nat} {e : Int} {a c edges : Nat} {lim : Lim} (hp : p ≤ l.length) :
    (oldGet l p e a c edges lim).2.1 ≤ l.length ∧ (oldGet l p e a c edges lim).1.kids.length ≤ edges ∧ (oldGet l p e a c edges lim).1.ints.length ≤ 100 ∧ (oldGet l p e a c edges lim).1.texts.length ≤ 100 ∧
    (∀ t ∈ (oldGet l p e a c edges lim).1.texts, t.size ≤ l.length) ∧
    ((oldGet l p e a c edges lim).2.2 = 0 → e = 0 ∧ p + 1 + (oldGet l p e a c edges lim).1.kids.length ≤ (oldGet l p e a c edges lim).2.1) := by
  unfold oldGet
  simp only
  have hz0 := fun h => cUint_zero (l := l) (p := p) (e := e) (m := 16777216) hp h
  have b0 := (cUint_bd l p e 16777216 hp).2.2
  generalize cUint l p e 16777216 = r at *
  have hsb := oldSpec_bd r.1
  generalize (oldSpec r.1).getD noSpec = sp at *
  have b1 := @gInts_bd l sp.ints ([], r.2.1, if (oldSpec (r.1 : Int)).isSome then r.2.2 else cFail r.2.2 9) b0
  have z1 := @gInts_zero l sp.ints ([], r.2.1, if (oldSpec (r.1 : Int)).isSome then r.2.2 else cFail r.2.2 9) b0
  generalize gInts l sp.ints ([], r.2.1, if (oldSpec (r.1 : Int)).isSome then r.2.2 else cFail r.2.2 9) = ai at *
  have b2 := @gTexts_bd l lim.t.toNat ([], ai.2.1, ai.2.2) b1.1 (by simp) sp.texts
  generalize gTexts l lim.t.toNat sp.texts ([], ai.2.1, ai.2.2) = tx at *
  generalize fieldErr [] tx.1 0 ⟨[], sp.texts, 0, -1⟩ = fe at *
  have b3 := cUint_bd l tx.2.1 (if fe ≠ 0 then cFail tx.2.2 fe else tx.2.2) edges b2.1
  have z3 := fun h => @cUint_zero l tx.2.1 (if fe ≠ 0 then cFail tx.2.2 fe else tx.2.2) edges b2.1 h
  generalize cUint l tx.2.1 (if fe ≠ 0 then cFail tx.2.2 fe else tx.2.2) edges = ku at *
  have b4 := @gKids_bd l a c ku.1 ([], ku.2.1, if (ku.1 : Int) < sp.least ∨ (0 ≤ sp.most ∧ sp.most < ku.1) then cFail ku.2.2 12 else ku.2.2) b3.2.2
  generalize gKids l a c ku.1 ([], ku.2.1, if (ku.1 : Int) < sp.least ∨ (0 ≤ sp.most ∧ sp.most < ku.1) then cFail ku.2.2 12 else ku.2.2) = q at *
  simp only at b1 z1 b2 b4
  refine ⟨b4.1, ?_, ?_, ?_, b2.2.2.1, fun h => ?_⟩
  · have := b4.2.1; simp at this; omega
  · have := b1.2; simp at this; omega
  · have := b2.2.1; simp at this; omega
  · obtain ⟨h1, h2, h3⟩ := b4.2.2 h
    have h4 : ku.2.2 = 0 := by
      split at h1
      · exact (cFail_zero h1 (by decide)).elim
      · exact h1
    have h5 := z3 h4
    have h6 : tx.2.2 = 0 := by
      by_cases hf : fe = 0
      · have := h5.1; rw [if_neg (by simpa using hf)] at this; exact this
      · have := h5.1; rw [if_pos hf] at this; exact (cFail_zero this hf).elim
    have h7 := b2.2.2.2 h6
    have h8 := z1 h7.1
    have h9 : r.2.2 = 0 := by
      have := h8.1
      split at this
      · exact this
      · exact (cFail_zero this (by decide)).elim
    have h10 := hz0 h9
    simp at h3
    exact ⟨h10.1, by omega⟩
end Pl
end Go.Proofs.YtdejljgoebcmpaaDoor
/- oldfile.scene. -/
namespace Go.Proofs.YtdejljgoebcmpaaDoor
open Go.RowKit

abbrev Tr := Pl.Node × Value × Value × Value
def trCells (t : Tr) : List Value := [.int .i64 t.1.kind, t.2.1, t.2.2.1, t.2.2.2]
theorem trCells_len (ts : List Tr) : (ts.flatMap trCells).length = ts.length * 4 := by
  induction ts with
  | nil => rfl
  | cons t ts ih => rw [List.flatMap_cons, List.length_append, ih, List.length_cons]; simp [trCells]; omega
theorem trCells_get (ts : List Tr) (j i : Nat) (hj : j < ts.length) (hi : i < 4) : (ts.flatMap trCells)[j * 4 + i]? = (trCells ts[j])[i]? := by
  induction ts generalizing j with
  | nil => simp at hj
  | cons t ts ih =>
    rw [List.flatMap_cons]
    cases j with
    | zero => rw [List.getElem?_append_left (by simp [trCells]; omega)]; simp
    | succ j =>
      rw [List.getElem?_append_right (by simp [trCells]; omega), show (j + 1) * 4 + i - (trCells t).length = j * 4 + i from by simp [trCells]; omega]
      exact ih j (by simpa using hj)
/-- Nodes of the call's own. -/
structure ONodes (B : Nat) (ts : List Tr) (v : Value) (w : World) : Prop where
  row : w.ownsRow B 43 4 v ts.length (ts.flatMap trCells)
  each : ∀ t ∈ ts, ONode B t.1 t.2.1 t.2.2.1 t.2.2.2 w
theorem ONodes.nil (B : Nat) (w : World) : ONodes B [] (.slice none 0 0) w := ⟨own_none _ _ _ _, by simp⟩
theorem ONodes.upd {B : Nat} {ts : List Tr} {v : Value} {w w' : World} {S : Nat → Prop} (h : ONodes B ts v w) (hu : Upd S w w') (hS : ∀ k, S k → k < B) : ONodes B ts v w' := by
  refine ⟨hu.own h.row (fun k hk hs => by have := own_ge h.row k hk; have := hS k hs; omega), fun t ht => ?_⟩
  have h1 := h.each t ht
  exact h1.upd hu (fun k hk hs => by have := own_ge h1.oi k hk; have := hS k hs; omega) (fun k hk hs => by have := own_ge h1.ot k hk; have := hS k hs; omega) (fun k hk hs => by have := own_ge h1.ok k hk; have := hS k hs; omega)
theorem ONode.base {B B' : Nat} {n : Pl.Node} {vi vt vk : Value} {w : World} (h : ONode B n vi vt vk w) (hb : B' ≤ B) : ONode B' n vi vt vk w := ⟨own_base h.oi hb, own_base h.ot hb, own_base h.ok hb⟩
theorem ONodes.app {B : Nat} {ts : List Tr} {t : Tr} {v v' : Value} {w w' : World} (h : ONodes B ts v w) (ht : ONode B t.1 t.2.1 t.2.2.1 t.2.2.2 w) (hu : Upd (fun k => v.ownBlock = some k) w w') (ho : w'.ownsRow B 43 4 v' (ts.length + 1) (ts.flatMap trCells ++ trCells t)) : ONodes B (ts ++ [t]) v' w' := by
  have keep : ∀ t : Tr, ONode B t.1 t.2.1 t.2.2.1 t.2.2.2 w → ONode B t.1 t.2.1 t.2.2.1 t.2.2.2 w' := fun t h1 =>
    h1.upd hu (fun k hk hs => own_apart h.row h1.oi (by decide) k hs hk) (fun k hk hs => own_apart h.row h1.ot (by decide) k hs hk) (fun k hk hs => own_apart h.row h1.ok (by decide) k hs hk)
  refine ⟨by rw [List.length_append, List.flatMap_append]; simpa using ho, fun t' ht' => ?_⟩
  rcases List.mem_append.1 ht' with h1 | h1
  · exact keep t' (h.each t' h1)
  · obtain rfl : t' = t := by simpa using h1
    exact keep t' ht
theorem ONodes.nodes {B : Nat} {ts : List Tr} {v : Value} {w : World} (h : ONodes B ts v w) : RNodes w v (ts.map (·.1)) := by
  rcases h.row.2 with ⟨rfl, h0⟩ | ⟨g, cap, cur, rfl, _⟩
  · have : ts = [] := List.eq_nil_of_length_eq_zero h0
    subst this
    exact ⟨_, _, rfl, fun h => by simp at h⟩
  · refine ⟨some ⟨g, 0, none⟩, cap, by rw [List.length_map], fun _ => ⟨_, rfl, fun j hj => ?_⟩⟩
    have hjt : j < ts.length := by simpa using hj
    have hc : ∀ i, i < 4 → w.cell? ⟨g, j * 4 + i, none⟩ = (trCells ts[j])[i]? := fun i hi => by
      rw [h.row.cellAt (j * 4 + i) (by omega), trCells_get ts j i hjt hi]
    have ha : (⟨g, 0, none⟩ : Addr).add (j * 4) = ⟨g, j * 4, none⟩ := by unfold Addr.add; split <;> simp_all
    have he := h.each ts[j] (List.getElem_mem hjt)
    rw [List.getElem_map, ha]
    exact ⟨ts[j].2.1, ts[j].2.2.1, ts[j].2.2.2, hc 0 (by decide), hc 1 (by decide), hc 2 (by decide), hc 3 (by decide), own_nums he.oi, own_strs he.ot, own_nums he.ok⟩
set_option maxRecDepth 100000 in
theorem infoNode : (Tryd.prog.info? 43).map (fun i => (i.zero, i.size, i.bytes)) = some (some (.agg #[.int .i64 0, .slice none 0 0, .slice none 0 0, .slice none 0 0]), 4, 80) := by rfl

/-- Within oldfile.scene: the limits' box, the result's, the cursor g, the scene's box N, the first block B behind. -/
structure ScnS (w : World) (g N B : Nat) (b : ByteArray) (lim : Pl.Lim) (p : Nat) (e : Int) (ts : List Tr) (v : Value) (w' : World) : Prop where
  cur : CurAt w' g b p e
  bel : Below w.heap.size w w'
  lr : w'.heap[w.heap.size]? = some (.cells (limC lim) 26 (0, 0))
  rr : w'.heap[w.heap.size + 1]? = some (.cells #[.slice none 0 0, .int .i64 0] 24 (0, 0))
  nd : w'.heap[N]? = some (.cells #[v, .int .i64 0] 24 (0, 0))
  ons : ONodes B ts v w'
  gl : w.heap.size + 1 < g
  gn : g < N
  nb : N < B
namespace ScnS
variable {w w1 w2 : World} {g N B p p' : Nat} {b : ByteArray} {lim : Pl.Lim} {e e' : Int} {ts : List Tr} {v : Value}
theorem step (h : ScnS w g N B b lim p e ts v w1) (hc : CurAt w2 g b p' e') (hu : Upd (· = g) w1 w2) : ScnS w g N B b lim p' e' ts v w2 := by
  have h1 := h.gl
  have h2 := h.gn
  have h3 := h.nb
  exact ⟨hc, Upd.below h.bel hu h.bel.size (fun i hi => by omega), (hu.block _ (Array.getElem?_eq_some_iff.1 h.lr).1 (by omega)).trans h.lr, (hu.block _ (Array.getElem?_eq_some_iff.1 h.rr).1 (by omega)).trans h.rr,
    (hu.block _ (Array.getElem?_eq_some_iff.1 h.nd).1 (by omega)).trans h.nd, h.ons.upd hu (fun k hk => by omega), h.gl, h.gn, h.nb⟩
theorem below (h : ScnS w g N B b lim p e ts v w1) (hb : Below w1.heap.size w1 w2) : ScnS w g N B b lim p e ts v w2 := h.step ((hb.block _ h.cur.lt).trans h.cur) (Upd.of_below hb)
theorem lcells (h : ScnS w g N B b lim p e ts v w1) : w1.cell? ⟨w.heap.size, 0, none⟩ = some (.int .i64 lim.b) ∧ w1.cell? ⟨w.heap.size, 1, none⟩ = some (.int .i64 lim.n) ∧ w1.cell? ⟨w.heap.size, 2, none⟩ = some (.int .i64 lim.e) ∧ w1.cell? ⟨w.heap.size, 3, none⟩ = some (.int .i64 lim.d) ∧ w1.cell? ⟨w.heap.size, 4, none⟩ = some (.int .i64 lim.t) := cells5 h.lr
end ScnS

namespace Pl
structure SmTo (L p : Nat) (ns : List Node) : Prop where
  len : ns.length ≤ p
  each : ∀ n ∈ ns, n.ints.length ≤ 100 ∧ n.texts.length ≤ 100 ∧ n.kids.length ≤ p ∧ ∀ t ∈ n.texts, t.size ≤ L
theorem SmTo.sm {L p : Nat} {ns : List Node} (h : SmTo L p ns) (hL : L ≤ 1048576) (hp : p ≤ L) : Sm ns :=
  ⟨by have := h.len; omega, fun n hn => by have := (h.each n hn).1; omega, fun n hn => by have := (h.each n hn).2.1; omega, fun n hn => by have := (h.each n hn).2.2.1; omega, fun n hn t ht => by have := (h.each n hn).2.2.2 t ht; omega⟩
theorem SmTo.step {L p p' : Nat} {ns : List Node} {n : Node} (h : SmTo L p ns) (hn : p + 1 + n.kids.length ≤ p') (h1 : n.ints.length ≤ 100) (h2 : n.texts.length ≤ 100) (h3 : ∀ t ∈ n.texts, t.size ≤ L) : SmTo L p' (ns ++ [n]) := by
  refine ⟨by have := h.len; simp; omega, fun m hm => ?_⟩
  rcases List.mem_append.1 hm with hm | hm
  · have := h.each m hm; exact ⟨this.1, this.2.1, by omega, this.2.2.2⟩
  · obtain rfl : m = n := by simpa using hm
    exact ⟨h1, h2, by omega, h3⟩
end Pl
end Go.Proofs.YtdejljgoebcmpaaDoor
/- oldfile.scene. -/
namespace Go.Proofs.YtdejljgoebcmpaaDoor
open Go.RowKit

namespace Pl
theorem oldNodes_bd {l : Bytes} {count : Nat} {lim : Lim} : ∀ (k : Nat) {at_ edges p : Nat} {e : Int} {ns : List Node}, p ≤ l.length → (e = 0 → SmTo l.length p ns) →
    (oldNodes l count lim k at_ edges p e ns).2.1 ≤ l.length ∧ ((oldNodes l count lim k at_ edges p e ns).2.2 = 0 → SmTo l.length (oldNodes l count lim k at_ edges p e ns).2.1 (oldNodes l count lim k at_ edges p e ns).1)
  | 0, _, _, _, _, _, hp, hs => ⟨hp, hs⟩
  | k + 1, at_, edges, p, e, ns, hp, hs => by
    unfold oldNodes
    by_cases he : e = 0
    · rw [if_pos he]
      have hb := @oldGet_bd l p e at_ count edges lim hp
      refine oldNodes_bd k hb.1 fun h0 => ?_
      obtain ⟨_, h1⟩ := hb.2.2.2.2.2 h0
      exact (hs he).step h1 hb.2.2.1 hb.2.2.2.1 hb.2.2.2.2.1
    · rw [if_neg he]; exact ⟨hp, hs⟩
end Pl
theorem ret_sc {v : Value} {a b : Int} (h : a = b) : Ending.returned (.tuple #[.agg #[v, .int .i64 0], .int .i64 a]) = .returned (.tuple #[.agg #[v, .int .i64 0], .int .i64 b]) := by rw [h]
theorem ONodes.base {B B' : Nat} {ts : List Tr} {v : Value} {w : World} (h : ONodes B ts v w) (hb : B' ≤ B) : ONodes B' ts v w := ⟨own_base h.row hb, fun t ht => (h.each t ht).base hb⟩

set_option maxHeartbeats 4000000 in
set_option maxRecDepth 100000 in
theorem of_scene (b : ByteArray) (lim : Pl.Lim) (w : World) (hT : Lib.Utf8Tabs 0 1 w) (hb : b.size ≤ 1048576) (hr : 0 ≤ lim.n ∧ lim.n ≤ 16777216 ∧ 0 ≤ lim.e ∧ lim.e ≤ 16777216 ∧ 0 ≤ lim.t ∧ lim.t ≤ 16777216) :
    Calls Tryd.prog 23 #[.string b, limV lim] w fun en w' =>
      (∃ v ts, en = .returned (.tuple #[.agg #[v, .int .i64 0], .int .i64 (Pl.oldScene b.data.toList lim).2]) ∧ ONodes w.heap.size ts v w' ∧ ts.map (·.1) = (Pl.oldScene b.data.toList lim).1.nodes) ∧ Below w.heap.size w w' := by
  have HT := Lib.hid hT
  have hbl : b.data.toList.length = b.size := by simp
  obtain ⟨l, hd⟩ : ∃ l, l = b.data.toList := ⟨_, rfl⟩
  rw [← hd] at hbl ⊢
  have HD := Lib.hid hd
  obtain ⟨r, hru⟩ : ∃ r, r = cUint l 0 0 lim.n.toNat := ⟨_, rfl⟩
  have bd1 := cUint_bd l 0 0 lim.n.toNat (by omega)
  have HU : Hid (∀ w1 g, CurAt w1 g b 0 0 → Calls Tryd.prog 44 #[.pointer (some ⟨g, 0, none⟩), .int .u64 lim.n] w1 fun en w' => en = .returned (.int .i64 r.1) ∧ CurAt w' g b r.2.1 r.2.2 ∧ Upd (· = g) w1 w') := fun w1 g h => by
    have := cur_uint g b 0 0 lim.n.toNat w1 h (by omega) (by omega) (by omega)
    rw [← hd, show ((lim.n.toNat : Nat) : Int) = lim.n from by omega] at this; subst hru; exact this
  rw [← hru] at bd1
  have HRU := Lib.hid hru
  obtain ⟨cn, p1, e1⟩ := r
  simp only at bd1 HU
  have hlr : Hid (((w.alloc (.cells (limC lim) 26)).alloc (.cells #[.slice none 0 0, .int .i64 0] 24)).heap[w.heap.size]? = some (.cells (limC lim) 26 (0, 0))) := (Below.heap_alloc _ _ _ (by simp)).trans (heap_alloc_new w _)
  have hrr : Hid (((w.alloc (.cells (limC lim) 26)).alloc (.cells #[.slice none 0 0, .int .i64 0] 24)).heap[w.heap.size + 1]? = some (.cells #[.slice none 0 0, .int .i64 0] 24 (0, 0))) := by
    have := heap_alloc_new (w.alloc (.cells (limC lim) 26)) (.cells #[.slice none 0 0, .int .i64 0] 24)
    rwa [show (w.alloc (.cells (limC lim) 26)).heap.size = w.heap.size + 1 from by simp] at this
  have hup : Hid (Below w.heap.size w ((w.alloc (.cells (limC lim) 26)).alloc (.cells #[.slice none 0 0, .int .i64 0] 24))) := ((Below.refl _ _).alloc (Nat.le_refl _) _).alloc (by simp) _
  have hsz0 : Hid (((w.alloc (.cells (limC lim) 26)).alloc (.cells #[.slice none 0 0, .int .i64 0] 24)).heap.size = w.heap.size + 2) := by unfold Hid; simp
  clear hru hd hT
  simp only [limV] at *
  go_enter Tryd.func23, Tryd.ntmps23
  go_upto_region 1 with (fail)
  have hlc : limC lim = #[.int .i64 lim.b, .int .i64 lim.n, .int .i64 lim.e, .int .i64 lim.d, .int .i64 lim.t] := rfl
  rw [hlc] at hlr hrr hup hsz0
  generalize (w.alloc (.cells #[.int .i64 lim.b, .int .i64 lim.n, .int .i64 lim.e, .int .i64 lim.d, .int .i64 lim.t] 26)).alloc (.cells #[.slice none 0 0, .int .i64 0] 24) = w0 at *
  clear hlc
  go_wp2_with fail
  refine (cur_new b _).mono ?_
  rintro en w1 ⟨rfl, hc1, hb1, hs1⟩
  have HS1 : Hid (CurAt w1 w0.heap.size b 0 0 ∧ Below w.heap.size w w1 ∧ w1.heap[w.heap.size]? = some (.cells #[.int .i64 lim.b, .int .i64 lim.n, .int .i64 lim.e, .int .i64 lim.d, .int .i64 lim.t] 26 (0, 0)) ∧ w1.heap[w.heap.size + 1]? = some (.cells #[.slice none 0 0, .int .i64 0] 24 (0, 0))) :=
    ⟨hc1, hup.out.trans (hb1.mono (by have := hsz0.out; omega)), (hb1.block _ (by have := hsz0.out; omega)).trans hlr.out, (hb1.block _ (by have := hsz0.out; omega)).trans hrr.out⟩
  have hgw : w.heap.size + 1 < w0.heap.size := by have := hsz0.out; omega
  have hg2 : 2 ≤ w0.heap.size := by have := hsz0.out; omega
  generalize hge : w0.heap.size = g at *
  clear hge hc1 hb1 hs1 hlr hrr hup hsz0
  obtain ⟨l0, l1, l2, l3, l4⟩ := cells5 HS1.out.2.2.1
  have ewn : IntKind.u64.wrap lim.n = lim.n := Pl.wraps_u64 _ (by omega) (by omega)
  go_wp2_with fail
  refine (HU.out _ _ HS1.out.1).mono ?_
  rintro en w2 ⟨rfl, hc2, hu2⟩
  have HS2 : Hid (CurAt w2 g b p1 e1 ∧ Below w.heap.size w w2 ∧ w2.heap[w.heap.size]? = some (.cells #[.int .i64 lim.b, .int .i64 lim.n, .int .i64 lim.e, .int .i64 lim.d, .int .i64 lim.t] 26 (0, 0)) ∧ w2.heap[w.heap.size + 1]? = some (.cells #[.slice none 0 0, .int .i64 0] 24 (0, 0))) := by
    obtain ⟨a, b, c, d⟩ := HS1.out
    exact ⟨hc2, Upd.below b hu2 b.size (fun i hi => by omega), (hu2.block _ (Array.getElem?_eq_some_iff.1 c).1 (by omega)).trans c, (hu2.block _ (Array.getElem?_eq_some_iff.1 d).1 (by omega)).trans d⟩
  clear l0 l1 l2 l3 l4 ewn hc2 hu2 HS1 HU
  obtain ⟨e2, he2⟩ : ∃ e2, e2 = (if cn = 0 then cFail e1 13 else e1) := ⟨_, rfl⟩
  have HE2 := Lib.hid he2
  clear he2
  go_upto_if 23 with (fail)
  go_cut [] (fun wx => Hid (CurAt wx g b p1 e2 ∧ Below w.heap.size w wx ∧ wx.heap[w.heap.size]? = some (.cells #[.int .i64 lim.b, .int .i64 lim.n, .int .i64 lim.e, .int .i64 lim.d, .int .i64 lim.t] 26 (0, 0)) ∧ wx.heap[w.heap.size + 1]? = some (.cells #[.slice none 0 0, .int .i64 0] 24 (0, 0))))
  case first =>
    by_cases hcn : cn = 0
    · have he := HE2.out
      rw [if_pos hcn] at he
      subst hcn
      go_wp2_with fail
      refine (cur_fail g b p1 e1 13 _ HS2.out.1).mono ?_
      rintro en w5 ⟨rfl, hc5, hu5⟩
      have HS3 : Hid (CurAt w5 g b p1 (cFail e1 13) ∧ Below w.heap.size w w5 ∧ w5.heap[w.heap.size]? = some (.cells #[.int .i64 lim.b, .int .i64 lim.n, .int .i64 lim.e, .int .i64 lim.d, .int .i64 lim.t] 26 (0, 0)) ∧ w5.heap[w.heap.size + 1]? = some (.cells #[.slice none 0 0, .int .i64 0] 24 (0, 0))) := by
        obtain ⟨a, b, c, d⟩ := HS2.out
        exact ⟨hc5, Upd.below b hu5 b.size (fun i hi => by omega), (hu5.block _ (Array.getElem?_eq_some_iff.1 c).1 (by omega)).trans c, (hu5.block _ (Array.getElem?_eq_some_iff.1 d).1 (by omega)).trans d⟩
      clear hc5 hu5 HS2
      go_wp2_with fail
      go_meet
      rw [he]; exact HS3
    · have he := HE2.out
      rw [if_neg hcn] at he
      have tz : ((cn : Int) == 0) = false := by simpa using hcn
      clear hcn
      go_wp2_with fail
      go_meet
      rw [he]; exact HS2
  case rest =>
    clear HS2
    obtain ⟨l0, l1, l2, l3, l4⟩ := cells5 hcut.out.2.2.1
    have hNg : Hid (g < wc.heap.size) := hcut.out.1.lt
    have GS : Hid (ScnS w g wc.heap.size (wc.heap.size + 1) b lim p1 e2 [] (.slice none 0 0) (wc.alloc (.cells #[.slice none 0 0, .int .i64 0] 24))) := by
      obtain ⟨a, b, c, d⟩ := hcut.out
      refine ⟨a.alloc _, b.alloc b.size _, (Below.heap_alloc _ _ _ (Array.getElem?_eq_some_iff.1 c).1).trans c, (Below.heap_alloc _ _ _ (Array.getElem?_eq_some_iff.1 d).1).trans d, heap_alloc_new _ _, ONodes.nil _ _, by omega, hNg.out, by omega⟩
    go_upto_region 6 with (fail)
    generalize hNe : wc.heap.size = N at *
    generalize wc.alloc (.cells #[.slice none 0 0, .int .i64 0] 24) = w3 at *
    clear hNe l0 l1 l2 l3 l4 hcut
    obtain ⟨l0, l1, l2, l3, l4⟩ := GS.out.lcells
    go_wp2_with fail
    clear l0 l1 l2 l3 l4
    go_loopw [9, 10] (fun ed i wr => ∃ (k E : Nat) (ts : List Tr) (v : Value) (p : Nat) (e : Int), k ≤ cn ∧ ts.length = k ∧ i = .int .i64 k ∧ ed = .int .i64 E ∧ E ≤ 16777216 ∧ p ≤ b.size ∧ Hid (Pl.oldNodes l cn lim cn 0 lim.e.toNat p1 e2 [] = Pl.oldNodes l cn lim (cn - k) k E p e (ts.map (·.1))) ∧ Hid (ScnS w g N (N + 1) b lim p e ts v wr)) (fun _ i _ => cn - (intOf i).toNat)
    case atStart => exact ⟨0, lim.e.toNat, [], _, p1, e2, by omega, rfl, rfl, by rw [Int.toNat_of_nonneg (by omega)], by omega, by omega, rfl, GS⟩
    case round =>
      clear GS
      obtain ⟨k, E, ts, v, p, e, hk, htl, rfl, rfl, hE, hp, hN, hG⟩ := hrel
      have HTL := Lib.hid htl
      clear htl
      by_cases hgo : k < cn ∧ e = 0
      · obtain ⟨hkn, rfl⟩ := hgo
        have tl : decide ((k : Int) < cn) = true := decide_eq_true (by omega)
        have tl2 : decide (k < cn) = true := decide_eq_true hkn
        have hce := Lib.hid (cur_err g b p 0 wr hG.out.cur)
        go_wp2_with fail
        refine (cur_err g b p 0 _ hG.out.cur).mono ?_
        rintro en w4 ⟨rfl, rfl⟩
        go_upto_region 10 with (fail)
        obtain ⟨l0, l1, l2, l3, l4⟩ := hG.out.lcells
        go_wp2_with fail
        clear l0 l1 l2 l3 l4 hce
        have hGet := of_get g b p 0 k cn E lim wr (tabs_below HT.out hG.out.bel) hG.out.cur hg2 hp hb (by omega) (by omega) hE (by omega)
        have hgb := @Pl.oldGet_bd l p 0 k cn E lim (by omega)
        obtain ⟨rg, hrg⟩ : ∃ rg, rg = Pl.oldGet l p 0 k cn E lim := ⟨_, rfl⟩
        rw [← HD.out, ← hrg] at hGet
        rw [← hrg] at hgb
        have hN2 : Hid (Pl.oldNodes l cn lim cn 0 lim.e.toNat p1 e2 [] = Pl.oldNodes l cn lim (cn - (k + 1)) (k + 1) (E - rg.1.kids.length) rg.2.1 rg.2.2 (ts.map (·.1) ++ [rg.1])) := by
          unfold Hid
          rw [hN.out, show cn - k = (cn - (k + 1)) + 1 from by omega]
          conv => lhs; unfold Pl.oldNodes
          rw [if_pos rfl, ← hrg]
        clear hrg hN
        obtain ⟨nd, p', e'⟩ := rg
        simp only at hGet hgb hN2
        obtain ⟨hp', hke, _⟩ := hgb
        have HGet := Lib.hid hGet
        clear hGet
        refine HGet.out.mono ?_
        rintro en w5 ⟨⟨vi, vt, vk, rfl, hon⟩, hc5, hu5⟩
        have hG5 := Lib.hid (hG.out.step hc5 hu5)
        have hBw : Hid (N + 1 ≤ wr.heap.size) := by have := (Array.getElem?_eq_some_iff.1 hG.out.nd).1; exact this
        have hB5 : Hid (N + 1 ≤ w5.heap.size) := by have := (Array.getElem?_eq_some_iff.1 hG5.out.nd).1; exact this
        have HON := Lib.hid (hon.base hBw.out)
        obtain ⟨iA, ic, rfl⟩ := own_slice hon.oi
        obtain ⟨tA, tc, rfl⟩ := own_slice hon.ot
        obtain ⟨kA, kc, rfl⟩ := own_slice hon.ok
        clear hc5 hu5 hG HGet hon hBw
        go_upto_region 11 with (fail)
        have hbx : Below w5.heap.size w5 (w5.alloc (.cells #[.int .i64 nd.kind, .slice iA nd.ints.length ic, .slice tA nd.texts.length tc, .slice kA nd.kids.length kc] 43)) := (Below.refl _ _).alloc (Nat.le_refl _) _
        have hG6 := Lib.hid (hG5.out.below hbx)
        have HO6 := Lib.hid (HON.out.upd (Upd.of_below (S := fun _ => False) hbx) (fun _ _ => id) (fun _ _ => id) (fun _ _ => id))
        have hM := heap_alloc_new w5 (.cells #[.int .i64 nd.kind, .slice iA nd.ints.length ic, .slice tA nd.texts.length tc, .slice kA nd.kids.length kc] 43)
        obtain ⟨n0, n1, n2, n3⟩ := cells4 hM
        clear hM hbx hG5 HON hB5
        generalize hMe : w5.heap.size = M at *
        generalize w5.alloc (.cells #[.int .i64 nd.kind, .slice iA nd.ints.length ic, .slice tA nd.texts.length tc, .slice kA nd.kids.length kc] 43) = w6 at *
        clear hMe
        have c0 : w6.cell? ⟨N, 0, none⟩ = some v := (cells2 hG6.out.nd).1
        have HOr := Lib.hid hG6.out.ons.row
        obtain ⟨vA, vc, rfl⟩ := own_slice HOr.out
        have hB6 : Hid (N + 1 ≤ w6.heap.size) := (Array.getElem?_eq_some_iff.1 hG6.out.nd).1
        go_wp2_with (at_builtin; refine app_new_at (.tmp 50) (.tmp 52) 22 43 (.agg #[.int .i64 0, .slice none 0 0, .slice none 0 0, .slice none 0 0]) 4 80 Tryd.underlying22 infoNode rfl (by decide) rfl rfl rfl HOr.out hB6.out [.int .i64 nd.kind, .slice iA nd.ints.length ic, .slice tA nd.texts.length tc, .slice kA nd.kids.length kc] 1 rfl rfl ?c2 ?c3 (by decide) ?_; (case c2 => simp [Value.oneCell']); (case c3 => have := HTL.out; omega))
        intro v13 w13 hO13 hU13 _
        obtain ⟨A5, c5, rfl⟩ := own_slice hO13
        have hgN := hG6.out.gn
        have hge : ∀ j, (Value.slice vA ts.length vc).ownBlock = some j → N + 1 ≤ j := fun j hj => own_ge HOr.out j hj
        have hN13 : w13.heap[N]? = some (.cells #[.slice vA ts.length vc, .int .i64 0] 24 (0, 0)) := (hU13.block _ (by have := hB6.out; omega) (fun e => by have := hge _ e; omega)).trans hG6.out.nd
        have d0 := (cells2 hN13).1
        have f0 := frozen2 hN13 0
        have hG14 : Hid (ScnS w g N (N + 1) b lim p' e' (ts ++ [(nd, .slice iA nd.ints.length ic, .slice tA nd.texts.length tc, .slice kA nd.kids.length kc)]) (.slice A5 (ts.length + 1) c5) (w13.setCell ⟨N, 0, none⟩ (.slice A5 (ts.length + 1) c5))) := by
          have hu := Upd.one w13 N 0 (.slice A5 (ts.length + 1) c5)
          have h6 := hG6.out
          have hgl := h6.gl
          have hbel : Below w.heap.size w w13 := Upd.below h6.bel hU13 h6.bel.size (fun i hi => by have := hge _ hi; omega)
          have hcu : CurAt w13 g b p' e' := (hU13.block _ h6.cur.lt (fun e => by have := hge _ e; omega)).trans h6.cur
          have hsz := hU13.size
          have hgl6 := h6.cur.lt
          refine ⟨(hu.block _ (by omega) (by omega)).trans hcu, Upd.below hbel hu hbel.size (fun i hi => by omega), ?_, ?_, heap_setCell_same w13 N 0 _ _ _ hN13, ?_, h6.gl, h6.gn, h6.nb⟩
          · exact (hu.block _ (by omega) (by omega)).trans ((hU13.block _ (by omega) (fun e => by have := hge _ e; omega)).trans h6.lr)
          · exact (hu.block _ (by omega) (by omega)).trans ((hU13.block _ (by omega) (fun e => by have := hge _ e; omega)).trans h6.rr)
          · exact (h6.ons.app (t := (nd, .slice iA nd.ints.length ic, .slice tA nd.texts.length tc, .slice kA nd.kids.length kc)) HO6.out hU13 hO13).upd hu (fun k hk => by omega)
        have HL : Hid ((ts ++ [(nd, Value.slice iA nd.ints.length ic, Value.slice tA nd.texts.length tc, Value.slice kA nd.kids.length kc)]).length = k + 1) := by unfold Hid; rw [List.length_append, HTL.out]; rfl
        have HM : Hid ((ts ++ [(nd, Value.slice iA nd.ints.length ic, Value.slice tA nd.texts.length tc, Value.slice kA nd.kids.length kc)]).map (·.1) = ts.map (·.1) ++ [nd]) := by unfold Hid; rw [List.map_append]; rfl
        have HKN : Hid (k < cn) := hkn
        clear hU13 hO13 hG6 HO6 HOr hge hN13 hB6 c0 n0 n1 n2 n3
        go_wp2_with fail
        go_roundw
        case rel => exact ⟨k + 1, E - nd.kids.length, _, _, p', e', HKN.out, HL.out, by go_num, by go_num, by omega, by omega, by rw [HM.out]; exact hN2, hG14⟩
        case measure => have := HKN.out; simp [intOf]; omega
      · have hEnd : Hid (Pl.oldNodes l cn lim cn 0 lim.e.toNat p1 e2 [] = (ts.map (·.1), p, e)) := by
          unfold Hid
          rw [hN.out]
          rcases Nat.lt_or_ge k cn with h | h
          · rw [show cn - k = (cn - (k + 1)) + 1 from by omega]
            unfold Pl.oldNodes
            rw [if_neg (fun h2 => hgo ⟨h, h2⟩)]
          · rw [show cn - k = 0 from by omega]; rfl
        have hsm : Hid (e = 0 → Pl.Sm (ts.map (·.1))) := by
          have h1 := (Pl.oldNodes_bd (l := l) (count := cn) (lim := lim) cn (at_ := 0) (edges := lim.e.toNat) (p := p1) (e := e2) (ns := []) bd1.2.2 (fun _ => ⟨by simp, by simp⟩)).2
          rw [hEnd.out] at h1
          exact fun h => (h1 h).sm (by omega) (by show p ≤ _; omega)
        have hce := Lib.hid (cur_err g b p e wr hG.out.cur)
        obtain ⟨e3, he3⟩ : ∃ e3, e3 = (if p < b.size then cFail e 8 else e) := ⟨_, rfl⟩
        have HE3 := Lib.hid he3
        have HZ : Hid (e3 = 0 → e = 0) := by
          intro h
          rw [he3] at h
          split at h
          · exact (Pl.cFail_zero h (by decide)).elim
          · exact h
        have HSC : Hid (Pl.oldScene l lim = if e3 ≠ 0 then (⟨[], 0⟩, e3) else if (Pl.oldValid ⟨ts.map (·.1), 0⟩ lim).1 ≠ 0 then (⟨[], 0⟩, (Pl.oldValid ⟨ts.map (·.1), 0⟩ lim).1) else (⟨ts.map (·.1), 0⟩, 0)) := by
          unfold Hid Pl.oldScene; simp only; rw [← HRU.out]; simp only; rw [← HE2.out, hEnd.out]; simp only; rw [hbl, ← he3]
        clear he3 hN hEnd
        rcases Nat.lt_or_ge k cn with h | h
        focus
          have h8 : e ≠ 0 := fun e => hgo ⟨h, e⟩
          have tl : decide ((k : Int) < cn) = true := decide_eq_true (by omega)
          have tl2 : decide (k < cn) = true := decide_eq_true h
          have te : (e == 0) = false := by simpa using h8
          clear hgo h8
          go_wp2_with fail
          refine hce.out.mono ?_
          rintro en w10 ⟨rfl, rfl⟩
          go_upto_region 13 with (fail)
        rotate_left
        focus
          have tl : decide ((k : Int) < cn) = false := decide_eq_false (by omega)
          have tl2 : decide (k < cn) = false := decide_eq_false (by omega)
          have te : True := trivial
          clear hgo
          go_upto_region 13 with (fail)
        all_goals (
          clear tl tl2 te h hce
          go_wp2_with fail
          refine (cur_left g b p e _ hG.out.cur hp (by omega)).mono ?_
          rintro en w11 ⟨nd, rfl, rfl⟩
          have hG7 : Hid (ScnS w g N (N + 1) b lim p e ts v (wr.drewN nd)) := hG.out.below ⟨rfl, rfl, rfl, Nat.le_refl _, fun _ _ => rfl⟩
          generalize wr.drewN nd = w7 at *
          clear hG
          go_upto_if 57 with (fail)
          go_cut [] (fun wx => Hid (ScnS w g N (N + 1) b lim p e3 ts v wx))
          case first =>
            have he := HE3.out
            by_cases hpb : p < b.size
            · rw [if_pos hpb] at he
              have tb : decide ((0 : Int) < (b.size : Int) - p) = true := decide_eq_true (by omega)
              go_wp2_with fail
              refine (cur_fail g b p e 8 _ hG7.out.cur).mono ?_
              rintro en w12 ⟨rfl, hc12, hu12⟩
              have hG8 := Lib.hid (hG7.out.step hc12 hu12)
              clear hc12 hu12 hG7
              go_wp2_with fail
              go_meet
              rw [he]; exact hG8
            · rw [if_neg hpb] at he
              have tb : decide ((0 : Int) < (b.size : Int) - p) = false := decide_eq_false (by omega)
              go_wp2_with fail
              go_meet
              rw [he]; exact hG7
          case rest =>
            clear hG7
            go_wp2_with fail
            refine (cur_err g b p e3 _ hcut.out.cur).mono ?_
            rintro en w12 ⟨rfl, rfl⟩
            have hrr := hcut.out.rr
            obtain ⟨r0, r1⟩ := cells2 hrr
            have fr0 := frozen2 hrr 0
            have fr1 := frozen2 hrr 1
            by_cases he0 : e3 = 0
            · have te : (e3 != 0) = false := by simpa using he0
              have hsm2 := hsm.out (HZ.out he0)
              obtain ⟨vA, vc, rfl⟩ := own_slice hcut.out.ons.row
              have HV := Lib.hid (old_valid (.slice vA ts.length vc) ⟨ts.map (·.1), 0⟩ lim wc (tabs_below HT.out hcut.out.bel) hcut.out.ons.nodes hsm2)
              have HSC2 : Hid (Pl.oldScene l lim = if (Pl.oldValid ⟨ts.map (·.1), 0⟩ lim).1 ≠ 0 then (⟨[], 0⟩, (Pl.oldValid ⟨ts.map (·.1), 0⟩ lim).1) else (⟨ts.map (·.1), 0⟩, 0)) := by
                unfold Hid; rw [HSC.out, if_neg (fun h => h he0)]
              generalize Pl.oldValid ⟨ts.map (·.1), 0⟩ lim = vd at *
              obtain ⟨q1, q2⟩ := vd
              simp only [limV] at HV HSC2
              obtain ⟨c0, c1⟩ := cells2 hcut.out.nd
              obtain ⟨l0, l1, l2, l3, l4⟩ := hcut.out.lcells
              clear hsm hsm2 HSC hrr r0 r1 fr0 fr1
              go_wp2_with fail
              refine HV.out.mono ?_
              rintro en w14 ⟨rfl, hb14⟩
              have hG9 := Lib.hid (hcut.out.below hb14)
              clear hcut c0 c1 l0 l1 l2 l3 l4 HV hb14
              obtain ⟨c0, c1⟩ := cells2 hG9.out.nd
              have hrr := hG9.out.rr
              obtain ⟨r0, r1⟩ := cells2 hrr
              have fr0 := frozen2 hrr 0
              have fr1 := frozen2 hrr 1
              by_cases hq1 : q1 = 0
              · have hq : Hid (Pl.oldScene l lim = (⟨ts.map (·.1), 0⟩, 0)) := by unfold Hid; rw [HSC2.out, if_neg (fun h => h hq1)]
                have tq : (q1 != 0) = false := by simpa using hq1
                have hse := set2 hrr (.slice vA ts.length vc) (.int .i64 0)
                have hbx : Below w14.heap.size w14 w14 := Below.refl _ _
                have hbe : Below w.heap.size w ((w14.setCell ⟨w.heap.size + 1, 0, none⟩ (.slice vA ts.length vc)).setCell ⟨w.heap.size + 1, 1, none⟩ (.int .i64 0)) := (hG9.out.bel.setCell (p := ⟨w.heap.size + 1, 0, none⟩) (Nat.le_succ _) _).setCell (p := ⟨w.heap.size + 1, 1, none⟩) (Nat.le_succ _) _
                have hgl := hG9.out.gl
                have hgn := hG9.out.gn
                have hon := (hG9.out.ons.upd (Upd.one w14 (w.heap.size + 1) 0 (.slice vA ts.length vc)) (fun k hk => by omega)).upd (Upd.one _ (w.heap.size + 1) 1 (.int .i64 0)) (fun k hk => by omega)
                have HRN := Lib.hid (hon.base (B' := w.heap.size) (by omega))
                clear hrr hon hbx
                go_wp2_with fail
                exact bodyPost_ret (results_row_tmp rfl _ _ (w.heap.size + 1) 24 _ (0, 0) _ rfl hse Tryd.underlying24 rfl rfl (.int .i64 0) rfl) rfl ⟨⟨_, _, ret_sc (by rw [hq.out]), HRN.out, by rw [hq.out]⟩, hbe⟩
              · have hq : Hid (Pl.oldScene l lim = (⟨[], 0⟩, q1)) := by unfold Hid; rw [HSC2.out, if_pos hq1]
                have tq : (q1 != 0) = true := by simpa using hq1
                have hse := set2 hrr (.slice none 0 0) (.int .i64 0)
                have hbe : Below w.heap.size w ((w14.setCell ⟨w.heap.size + 1, 0, none⟩ (.slice none 0 0)).setCell ⟨w.heap.size + 1, 1, none⟩ (.int .i64 0)) := (hG9.out.bel.setCell (p := ⟨w.heap.size + 1, 0, none⟩) (Nat.le_succ _) _).setCell (p := ⟨w.heap.size + 1, 1, none⟩) (Nat.le_succ _) _
                clear hrr
                go_wp2_with fail
                exact bodyPost_ret (results_row_tmp rfl _ _ (w.heap.size + 1) 24 _ (0, 0) _ rfl hse Tryd.underlying24 rfl rfl (.int .i64 q1) rfl) rfl ⟨⟨_, _, ret_sc (by rw [hq.out]), ONodes.nil _ _, by rw [hq.out]; rfl⟩, hbe⟩
            · have hq : Hid (Pl.oldScene l lim = (⟨[], 0⟩, e3)) := by unfold Hid; rw [HSC.out, if_pos he0]
              have te : (e3 != 0) = true := by simpa using he0
              have hse := set2 hrr (.slice none 0 0) (.int .i64 0)
              have hbe : Below w.heap.size w ((wc.setCell ⟨w.heap.size + 1, 0, none⟩ (.slice none 0 0)).setCell ⟨w.heap.size + 1, 1, none⟩ (.int .i64 0)) := (hcut.out.bel.setCell (p := ⟨w.heap.size + 1, 0, none⟩) (Nat.le_succ _) _).setCell (p := ⟨w.heap.size + 1, 1, none⟩) (Nat.le_succ _) _
              clear hrr
              go_wp2_with fail
              exact bodyPost_ret (results_row_tmp rfl _ _ (w.heap.size + 1) 24 _ (0, 0) _ rfl hse Tryd.underlying24 rfl rfl (.int .i64 e3) rfl) rfl ⟨⟨_, _, ret_sc (by rw [hq.out]), ONodes.nil _ _, by rw [hq.out]; rfl⟩, hbe⟩)
end Go.Proofs.YtdejljgoebcmpaaDoor
/- oldfile.Load. -/
namespace Go.Proofs.YtdejljgoebcmpaaDoor
open Go.RowKit

theorem fSec_pay (l : Pl.Bytes) (p : Nat) (e : Int) (h : p ≤ l.length) : (fSec l p e).1.pay.length ≤ l.length := by
  unfold fSec
  have b1 := (cByte_bd l p e h).2
  have b2 := (cUint_bd l (cByte l p e).2.1 (if (cByte l p e).1 = 0 then cFail (cByte l p e).2.2 4 else (cByte l p e).2.2) 16777216 b1).2.2
  exact (cBytes_bd l _ _ _ b2).1
theorem fGo_pay (l : Pl.Bytes) : ∀ (k p : Nat) (e : Int) (acc : List Pl.Sec), p ≤ l.length → (∀ s ∈ acc, s.pay.length ≤ l.length) → ∀ s ∈ (fGo l k p e acc).2, s.pay.length ≤ l.length
  | 0, p, e, acc, _, h => by unfold fGo; split <;> exact h
  | k + 1, p, e, acc, hp, h => by
    unfold fGo
    split
    · refine fGo_pay l k _ _ _ (fSec_bd l p e hp) fun s hs => ?_
      rcases List.mem_append.1 hs with hs | hs
      · exact h s hs
      · obtain rfl : s = (fSec l p e).1 := by simpa using hs
        exact fSec_pay l p e hp
    · exact h
theorem fGet_pay (m l : Pl.Bytes) : ∀ s ∈ (fGet m l).2.1, s.pay.length ≤ l.length := by
  intro s hs
  have h0 := (cByte_bd (l.drop m.length) 0 0 (Nat.zero_le _)).2
  have h1 : ∀ e1, ∀ s ∈ (fGo (l.drop m.length) 8 (cByte (l.drop m.length) 0 0).2.1 e1 []).2, s.pay.length ≤ l.length := fun e1 s hs => by
    have := fGo_pay (l.drop m.length) 8 (cByte (l.drop m.length) 0 0).2.1 e1 [] h0 (by simp) s hs
    rw [List.length_drop] at this; omega
  unfold fGet at hs
  by_cases hp : isPre m l = true
  · rw [if_pos hp] at hs
    simp only at hs
    by_cases hq : (fGo (l.drop m.length) 8 (cByte (l.drop m.length) 0 0).2.1 (if (cByte (l.drop m.length) 0 0).1 = 0 then cFail (cByte (l.drop m.length) 0 0).2.2 7 else (cByte (l.drop m.length) 0 0).2.2) []).1 = 0
    · rw [if_pos hq] at hs; exact h1 _ s hs
    · rw [if_neg hq] at hs; simp at hs
  · rw [if_neg hp] at hs; simp at hs

namespace Pl
theorem right_bd {l : Lim} (h : right l = true) : 0 ≤ l.n ∧ l.n ≤ 16777216 ∧ 0 ≤ l.e ∧ l.e ≤ 16777216 ∧ 0 ≤ l.t ∧ l.t ≤ 16777216 := by
  unfold right at h
  have h' := (Bool.and_eq_true_iff).1 h
  have h1 : l.b ≤ 16777216 ∧ l.n ≤ 16777216 ∧ l.e ≤ 16777216 ∧ l.d ≤ 16777216 ∧ l.t ≤ 16777216 := of_decide_eq_true h'.1
  have h2 : 0 ≤ l.b ∧ 0 ≤ l.n ∧ 0 ≤ l.e ∧ 0 ≤ l.d ∧ 0 ≤ l.t := of_decide_eq_true h'.2
  omega
noncomputable def oldOne (secs : List Sec) (lim : Lim) : Scene × Int :=
  match secs with
  | [s] => if s.id ≠ 1 then (⟨[], 0⟩, 4) else oldScene s.pay lim
  | _ => (⟨[], 0⟩, 4)
/-- oldfile.Load: the scene; the error. -/
noncomputable def oldLoad (l : Bytes) (lim : Lim) : Scene × Int :=
  if right lim = false then (⟨[], 0⟩, 1) else if lim.b < l.length then (⟨[], 0⟩, 19) else
  let f := fGet mag l
  if f.2.2 ≠ 0 then (⟨[], 0⟩, f.2.2) else if f.1 ≠ 1 then (⟨[], 0⟩, 7) else
  oldOne f.2.1 lim
end Pl

/-- Within oldfile.Load: the limits' box, the result's, the empty scene's. -/
structure LodS (w : World) (lim : Pl.Lim) (w' : World) : Prop where
  bel : Below w.heap.size w w'
  lr : w'.heap[w.heap.size]? = some (.cells (limC lim) 26 (0, 0))
  rr : w'.heap[w.heap.size + 1]? = some (.cells #[.slice none 0 0, .int .i64 0] 24 (0, 0))
  zr : w'.heap[w.heap.size + 2]? = some (.cells #[.slice none 0 0, .int .i64 0] 24 (0, 0))
namespace LodS
variable {w w1 w2 : World} {lim : Pl.Lim}
theorem box (w : World) (lim : Pl.Lim) : LodS w lim (((w.alloc (.cells (limC lim) 26)).alloc (.cells #[.slice none 0 0, .int .i64 0] 24)).alloc (.cells #[.slice none 0 0, .int .i64 0] 24)) := by
  refine ⟨(((Below.refl _ _).alloc (Nat.le_refl _) _).alloc (by simp) _).alloc (by simp; omega) _, ?_, ?_, ?_⟩
  · exact (Below.heap_alloc _ _ _ (by simp; omega)).trans ((Below.heap_alloc _ _ _ (by simp)).trans (heap_alloc_new w _))
  · refine (Below.heap_alloc _ _ _ (by simp)).trans ?_
    have := heap_alloc_new (w.alloc (.cells (limC lim) 26)) (.cells #[.slice none 0 0, .int .i64 0] 24)
    rwa [show (w.alloc (.cells (limC lim) 26)).heap.size = w.heap.size + 1 from by simp] at this
  · have := heap_alloc_new ((w.alloc (.cells (limC lim) 26)).alloc (.cells #[.slice none 0 0, .int .i64 0] 24)) (.cells #[.slice none 0 0, .int .i64 0] 24)
    rwa [show ((w.alloc (.cells (limC lim) 26)).alloc (.cells #[.slice none 0 0, .int .i64 0] 24)).heap.size = w.heap.size + 2 from by simp] at this
theorem step (h : LodS w lim w1) (hb : Below w1.heap.size w1 w2) : LodS w lim w2 :=
  ⟨h.bel.trans (hb.mono h.bel.size), (hb.block _ (Array.getElem?_eq_some_iff.1 h.lr).1).trans h.lr, (hb.block _ (Array.getElem?_eq_some_iff.1 h.rr).1).trans h.rr, (hb.block _ (Array.getElem?_eq_some_iff.1 h.zr).1).trans h.zr⟩
theorem drew (h : LodS w lim w1) : LodS w lim w1.drew := ⟨h.bel.drew, h.lr, h.rr, h.zr⟩
theorem lcells (h : LodS w lim w1) : w1.cell? ⟨w.heap.size, 0, none⟩ = some (.int .i64 lim.b) ∧ w1.cell? ⟨w.heap.size, 1, none⟩ = some (.int .i64 lim.n) ∧ w1.cell? ⟨w.heap.size, 2, none⟩ = some (.int .i64 lim.e) ∧ w1.cell? ⟨w.heap.size, 3, none⟩ = some (.int .i64 lim.d) ∧ w1.cell? ⟨w.heap.size, 4, none⟩ = some (.int .i64 lim.t) := cells5 h.lr
end LodS

set_option maxHeartbeats 4000000 in
set_option maxRecDepth 100000 in
theorem of_load (b : ByteArray) (lim : Pl.Lim) (w : World) (hT : Lib.Utf8Tabs 0 1 w) (hb : b.size ≤ 1048576) :
    Calls Tryd.prog 8 #[.string b, limV lim] w fun en w' =>
      (∃ v ts, en = .returned (.tuple #[.agg #[v, .int .i64 0], .int .i64 (Pl.oldLoad b.data.toList lim).2]) ∧ ONodes w.heap.size ts v w' ∧ ts.map (·.1) = (Pl.oldLoad b.data.toList lim).1.nodes) ∧ Below w.heap.size w w' := by
  have HT := Lib.hid hT
  have hbl : b.data.toList.length = b.size := by simp
  have HR : Hid (∀ w, Calls Tryd.prog 21 #[limV lim] w fun en w' => en = .returned (.bool (Pl.right lim)) ∧ Below w.heap.size w w') := fun w => lim_right lim w
  have HF : Hid (∀ w, Calls Tryd.prog 22 #[.string ⟨#[68, 73, 79, 82]⟩, .string b] w fun en w' => (∃ v, en = .returned (.tuple #[.int .i64 (fGet Pl.mag b.data.toList).1, v, .int .i64 (fGet Pl.mag b.data.toList).2.2]) ∧
      w'.ownsRow w.heap.size 48 2 v (fGet Pl.mag b.data.toList).2.1.length (secCells (fGet Pl.mag b.data.toList).2.1)) ∧ Below w.heap.size w w') := fun w => frame_get ⟨#[68, 73, 79, 82]⟩ b w rfl (by omega)
  have hpay := fGet_pay Pl.mag b.data.toList
  have hrt : Hid (Pl.right lim = true → 0 ≤ lim.n ∧ lim.n ≤ 16777216 ∧ 0 ≤ lim.e ∧ lim.e ≤ 16777216 ∧ 0 ≤ lim.t ∧ lim.t ≤ 16777216) := fun h => Pl.right_bd h
  have HE : Hid (Pl.oldLoad b.data.toList lim = if Pl.right lim = false then (⟨[], 0⟩, 1) else if lim.b < (b.size : Int) then (⟨[], 0⟩, 19) else
    if (fGet Pl.mag b.data.toList).2.2 ≠ 0 then (⟨[], 0⟩, (fGet Pl.mag b.data.toList).2.2) else if (fGet Pl.mag b.data.toList).1 ≠ 1 then (⟨[], 0⟩, 7) else Pl.oldOne (fGet Pl.mag b.data.toList).2.1 lim) := by unfold Hid Pl.oldLoad; rw [hbl]
  rw [hbl] at hpay
  generalize Pl.oldLoad b.data.toList lim = res at *
  generalize fGet Pl.mag b.data.toList = f at *
  generalize Pl.right lim = q at *
  obtain ⟨ver, secs, fe⟩ := f
  simp only at HE HF hpay
  have HS0 := Lib.hid (LodS.box w lim)
  clear hT
  simp only [limV] at *
  go_enter Tryd.func8, Tryd.ntmps8
  go_upto_region 2 with (fail)
  have hlc : limC lim = #[.int .i64 lim.b, .int .i64 lim.n, .int .i64 lim.e, .int .i64 lim.d, .int .i64 lim.t] := rfl
  rw [hlc] at HS0
  generalize ((w.alloc (.cells #[.int .i64 lim.b, .int .i64 lim.n, .int .i64 lim.e, .int .i64 lim.d, .int .i64 lim.t] 26)).alloc (.cells #[.slice none 0 0, .int .i64 0] 24)).alloc (.cells #[.slice none 0 0, .int .i64 0] 24) = w0 at *
  obtain ⟨l0, l1, l2, l3, l4⟩ := HS0.out.lcells
  go_wp2_with fail
  refine (HR.out _).mono ?_
  rintro en w1 ⟨rfl, hb1⟩
  have HS1 := Lib.hid (HS0.out.step hb1)
  clear l0 l1 l2 l3 l4 hb1 HS0 HR
  cases q
  · have hq : Hid (res = (⟨[], 0⟩, 1)) := by unfold Hid; rw [HE.out, if_pos rfl]
    obtain ⟨r0, r1⟩ := cells2 HS1.out.rr
    obtain ⟨z0, z1⟩ := cells2 HS1.out.zr
    have fr0 := frozen2 HS1.out.rr 0
    have fr1 := frozen2 HS1.out.rr 1
    have hse := set2 HS1.out.rr (.slice none 0 0) (.int .i64 0)
    have hbe : Below w.heap.size w ((w1.setCell ⟨w.heap.size + 1, 0, none⟩ (.slice none 0 0)).setCell ⟨w.heap.size + 1, 1, none⟩ (.int .i64 0)) := (HS1.out.bel.setCell (p := ⟨w.heap.size + 1, 0, none⟩) (Nat.le_succ _) _).setCell (p := ⟨w.heap.size + 1, 1, none⟩) (Nat.le_succ _) _
    go_wp2_with fail
    exact bodyPost_ret (results_row_tmp rfl _ _ (w.heap.size + 1) 24 _ (0, 0) _ rfl hse Tryd.underlying24 rfl rfl (.int .i64 1) rfl) rfl ⟨⟨_, _, ret_sc (by rw [hq.out]), ONodes.nil _ _, by rw [hq.out]; rfl⟩, hbe⟩
  obtain ⟨l0, l1, l2, l3, l4⟩ := HS1.out.lcells
  by_cases hlb : lim.b < (b.size : Int)
  · have hq : Hid (res = (⟨[], 0⟩, 19)) := by unfold Hid; rw [HE.out, if_neg (by simp), if_pos hlb]
    have tlb : decide (lim.b < (b.size : Int)) = true := decide_eq_true hlb
    obtain ⟨r0, r1⟩ := cells2 HS1.out.rr
    obtain ⟨z0, z1⟩ := cells2 HS1.out.zr
    have fr0 := frozen2 HS1.out.rr 0
    have fr1 := frozen2 HS1.out.rr 1
    have hse := set2 HS1.out.rr (.slice none 0 0) (.int .i64 0)
    have hbe : Below w.heap.size w ((w1.setCell ⟨w.heap.size + 1, 0, none⟩ (.slice none 0 0)).setCell ⟨w.heap.size + 1, 1, none⟩ (.int .i64 0)) := (HS1.out.bel.setCell (p := ⟨w.heap.size + 1, 0, none⟩) (Nat.le_succ _) _).setCell (p := ⟨w.heap.size + 1, 1, none⟩) (Nat.le_succ _) _
    go_wp2_with fail
    exact bodyPost_ret (results_row_tmp rfl _ _ (w.heap.size + 1) 24 _ (0, 0) _ rfl hse Tryd.underlying24 rfl rfl (.int .i64 19) rfl) rfl ⟨⟨_, _, ret_sc (by rw [hq.out]), ONodes.nil _ _, by rw [hq.out]; rfl⟩, hbe⟩
  have tlb : decide (lim.b < (b.size : Int)) = false := decide_eq_false hlb
  go_wp2_with fail
  refine (HF.out _).mono ?_
  rintro en w2 ⟨⟨v, rfl, ho⟩, hb2⟩
  have HS2 := Lib.hid (HS1.out.step hb2)
  have HO := Lib.hid ho
  obtain ⟨sA, sc, rfl⟩ := own_slice ho
  clear ho hb2 HF HS1 l0 l1 l2 l3 l4
  by_cases hfe : fe = 0
  rotate_left
  · have hq : Hid (res = (⟨[], 0⟩, fe)) := by unfold Hid; rw [HE.out, if_neg (by simp), if_neg (show ¬ lim.b < (b.size : Int) by omega), if_pos hfe]
    have tfe : (fe != 0) = true := by simpa using hfe
    obtain ⟨r0, r1⟩ := cells2 HS2.out.rr
    obtain ⟨z0, z1⟩ := cells2 HS2.out.zr
    have fr0 := frozen2 HS2.out.rr 0
    have fr1 := frozen2 HS2.out.rr 1
    have hse := set2 HS2.out.rr (.slice none 0 0) (.int .i64 0)
    have hbe : Below w.heap.size w ((w2.setCell ⟨w.heap.size + 1, 0, none⟩ (.slice none 0 0)).setCell ⟨w.heap.size + 1, 1, none⟩ (.int .i64 0)) := (HS2.out.bel.setCell (p := ⟨w.heap.size + 1, 0, none⟩) (Nat.le_succ _) _).setCell (p := ⟨w.heap.size + 1, 1, none⟩) (Nat.le_succ _) _
    go_wp2_with fail
    exact bodyPost_ret (results_row_tmp rfl _ _ (w.heap.size + 1) 24 _ (0, 0) _ rfl hse Tryd.underlying24 rfl rfl (.int .i64 fe) rfl) rfl ⟨⟨_, _, ret_sc (by rw [hq.out]), ONodes.nil _ _, by rw [hq.out]; rfl⟩, hbe⟩
  have tfe : (fe != 0) = false := by simpa using hfe
  by_cases hve : ver = 1
  rotate_left
  · have hq : Hid (res = (⟨[], 0⟩, 7)) := by unfold Hid; rw [HE.out, if_neg (by simp), if_neg (show ¬ lim.b < (b.size : Int) by omega), if_neg (fun h => h hfe), if_pos hve]
    have tve : ((ver : Int) != 1) = true := by rw [bne_iff_ne]; omega
    obtain ⟨r0, r1⟩ := cells2 HS2.out.rr
    obtain ⟨z0, z1⟩ := cells2 HS2.out.zr
    have fr0 := frozen2 HS2.out.rr 0
    have fr1 := frozen2 HS2.out.rr 1
    have hse := set2 HS2.out.rr (.slice none 0 0) (.int .i64 0)
    have hbe : Below w.heap.size w ((w2.setCell ⟨w.heap.size + 1, 0, none⟩ (.slice none 0 0)).setCell ⟨w.heap.size + 1, 1, none⟩ (.int .i64 0)) := (HS2.out.bel.setCell (p := ⟨w.heap.size + 1, 0, none⟩) (Nat.le_succ _) _).setCell (p := ⟨w.heap.size + 1, 1, none⟩) (Nat.le_succ _) _
    go_wp2_with fail
    exact bodyPost_ret (results_row_tmp rfl _ _ (w.heap.size + 1) 24 _ (0, 0) _ rfl hse Tryd.underlying24 rfl rfl (.int .i64 7) rfl) rfl ⟨⟨_, _, ret_sc (by rw [hq.out]), ONodes.nil _ _, by rw [hq.out]; rfl⟩, hbe⟩
  have tve : ((ver : Int) != 1) = false := by rw [bne_eq_false_iff_eq]; omega
  have HE4 : Hid (res = Pl.oldOne secs lim) := by unfold Hid; rw [HE.out, if_neg (by simp), if_neg (show ¬ lim.b < (b.size : Int) by omega), if_neg (fun h => h hfe), if_neg (fun h => h hve)]
  clear HE
  by_cases hl1 : secs.length = 1
  rotate_left
  · have hq : Hid (res = (⟨[], 0⟩, 4)) := by unfold Hid; rw [HE4.out]; rcases secs with _ | ⟨s, _ | ⟨s2, secs⟩⟩ <;> first | rfl | exact absurd rfl hl1
    have tl1 : ((secs.length : Int) != 1) = true := by rw [bne_iff_ne]; omega
    obtain ⟨r0, r1⟩ := cells2 HS2.out.rr
    obtain ⟨z0, z1⟩ := cells2 HS2.out.zr
    have fr0 := frozen2 HS2.out.rr 0
    have fr1 := frozen2 HS2.out.rr 1
    have hse := set2 HS2.out.rr (.slice none 0 0) (.int .i64 0)
    have hbe : Below w.heap.size w ((w2.setCell ⟨w.heap.size + 1, 0, none⟩ (.slice none 0 0)).setCell ⟨w.heap.size + 1, 1, none⟩ (.int .i64 0)) := (HS2.out.bel.setCell (p := ⟨w.heap.size + 1, 0, none⟩) (Nat.le_succ _) _).setCell (p := ⟨w.heap.size + 1, 1, none⟩) (Nat.le_succ _) _
    go_wp2_with fail
    exact bodyPost_ret (results_row_tmp rfl _ _ (w.heap.size + 1) 24 _ (0, 0) _ rfl hse Tryd.underlying24 rfl rfl (.int .i64 4) rfl) rfl ⟨⟨_, _, ret_sc (by rw [hq.out]), ONodes.nil _ _, by rw [hq.out]; rfl⟩, hbe⟩
  obtain ⟨s, rfl⟩ : ∃ s, secs = [s] := by
    rcases secs with _ | ⟨s, _ | ⟨s2, secs⟩⟩
    · simp at hl1
    · exact ⟨s, rfl⟩
    · simp at hl1
  have HE5 : Hid (res = if s.id ≠ 1 then (⟨[], 0⟩, 4) else Pl.oldScene s.pay lim) := HE4.out
  have hs1 := hpay s (by simp)
  clear HE4 hl1 hpay
  obtain ⟨gs, rfl⟩ : ∃ gs, sA = some ⟨gs, 0, none⟩ := by
    rcases HO.out.2 with ⟨h, _⟩ | ⟨g, cap, cur, h, _⟩
    · injection h with h1 h2 h3; simp at h2
    · injection h with h1; exact ⟨g, h1⟩
  have k0 : w2.cell? ⟨gs, 0, none⟩ = some (.int .i64 s.id) := HO.out.cellAt 0 (by simp)
  have k1 : w2.cell? ⟨gs, 1, none⟩ = some (.string (Pl.str s.pay)) := HO.out.cellAt 1 (by simp)
  by_cases hid : s.id = 1
  rotate_left
  · have hq : Hid (res = (⟨[], 0⟩, 4)) := by unfold Hid; rw [HE5.out, if_pos hid]
    have tid : ((s.id : Int) != 1) = true := by rw [bne_iff_ne]; omega
    obtain ⟨r0, r1⟩ := cells2 HS2.out.rr
    obtain ⟨z0, z1⟩ := cells2 HS2.out.zr
    have fr0 := frozen2 HS2.out.rr 0
    have fr1 := frozen2 HS2.out.rr 1
    have hse := set2 HS2.out.rr (.slice none 0 0) (.int .i64 0)
    have hbe : Below w.heap.size w ((w2.setCell ⟨w.heap.size + 1, 0, none⟩ (.slice none 0 0)).setCell ⟨w.heap.size + 1, 1, none⟩ (.int .i64 0)) := (HS2.out.bel.setCell (p := ⟨w.heap.size + 1, 0, none⟩) (Nat.le_succ _) _).setCell (p := ⟨w.heap.size + 1, 1, none⟩) (Nat.le_succ _) _
    go_wp2_with fail
    exact bodyPost_ret (results_row_tmp rfl _ _ (w.heap.size + 1) 24 _ (0, 0) _ rfl hse Tryd.underlying24 rfl rfl (.int .i64 4) rfl) rfl ⟨⟨_, _, ret_sc (by rw [hq.out]), ONodes.nil _ _, by rw [hq.out]; rfl⟩, hbe⟩
  have tid : ((s.id : Int) != 1) = false := by rw [bne_eq_false_iff_eq]; omega
  have HE6 : Hid (res = Pl.oldScene s.pay lim) := by unfold Hid; rw [HE5.out, if_neg (fun h => h hid)]
  clear HE5 HO
  obtain ⟨l0, l1, l2, l3, l4⟩ := HS2.out.lcells
  have hps : (Pl.str s.pay).size = s.pay.length := str_size' _
  have hpl : (Pl.str s.pay).data.toList = s.pay := by simp [Pl.str]
  have HSc : Hid (∀ w1, Below w.heap.size w w1 → Calls Tryd.prog 23 #[.string (Pl.str s.pay), limV lim] w1 fun en w' =>
      (∃ v ts, en = .returned (.tuple #[.agg #[v, .int .i64 0], .int .i64 res.2]) ∧ ONodes w1.heap.size ts v w' ∧ ts.map (·.1) = res.1.nodes) ∧ Below w1.heap.size w1 w') := fun w1 hb1 => by
    have := of_scene (Pl.str s.pay) lim w1 (tabs_below HT.out hb1) (by omega) (hrt.out trivial)
    rw [hpl, ← HE6.out] at this; exact this
  simp only [limV] at HSc
  clear hps hpl HE6
  go_upto_region 13 with (fail)
  go_region_with ((go_at_call 23; refine (HSc.out _ HS2.out.bel.drew).mono ?_; rintro en w3 ⟨⟨v, ts, rfl, hv, hvm⟩, hb3⟩; obtain ⟨vA, vc, rfl⟩ := own_slice hv.row; have HS3 := Lib.hid (HS2.out.drew.step hb3); have HVM := Lib.hid hvm; have HV := Lib.hid hv; obtain ⟨r0, r1⟩ := cells2 HS3.out.rr; have fr0 := frozen2 HS3.out.rr 0; have fr1 := frozen2 HS3.out.rr 1; clear hv hvm hb3))
  all_goals
    have hse := set2 HS3.out.rr (.slice vA ts.length vc) (.int .i64 0)
    have hbe : Below w.heap.size w ((w3.setCell ⟨w.heap.size + 1, 0, none⟩ (.slice vA ts.length vc)).setCell ⟨w.heap.size + 1, 1, none⟩ (.int .i64 0)) := (HS3.out.bel.setCell (p := ⟨w.heap.size + 1, 0, none⟩) (Nat.le_succ _) _).setCell (p := ⟨w.heap.size + 1, 1, none⟩) (Nat.le_succ _) _
    have hwz : w.heap.size + 2 < w2.heap.size := (Array.getElem?_eq_some_iff.1 HS2.out.zr).1
    have hon : Hid (ONodes w.heap.size ts (.slice vA ts.length vc) ((w3.setCell ⟨w.heap.size + 1, 0, none⟩ (.slice vA ts.length vc)).setCell ⟨w.heap.size + 1, 1, none⟩ (.int .i64 0))) :=
      (((HV.out.base (B' := w2.heap.size) (Nat.le_refl _)).upd (Upd.one w3 (w.heap.size + 1) 0 (.slice vA ts.length vc)) (fun k hk => by omega)).upd (Upd.one _ (w.heap.size + 1) 1 (.int .i64 0)) (fun k hk => by omega)).base (by omega)
    clear hwz
    go_wp2_with fail
    exact bodyPost_ret (results_row_tmp rfl _ _ (w.heap.size + 1) 24 _ (0, 0) _ rfl hse Tryd.underlying24 rfl rfl (.int .i64 res.2) rfl) rfl ⟨⟨_, _, rfl, hon.out, HVM.out⟩, hbe⟩
end Go.Proofs.YtdejljgoebcmpaaDoor
/- Plain: what is read there and back. -/
namespace Go.Proofs.YtdejljgoebcmpaaDoor
open Pl
/-- From a place on stands this. -/
def AtP (l : Bytes) (p : Nat) (r : Bytes) : Prop := p ≤ l.length ∧ l.drop p = r
theorem AtP.len {l : Bytes} {p : Nat} {r : Bytes} (h : AtP l p r) : l.length = p + r.length := by
  have := congrArg List.length h.2
  rw [List.length_drop] at this
  have := h.1
  omega
theorem AtP.step {l : Bytes} {p : Nat} {x r : Bytes} (h : AtP l p (x ++ r)) : AtP l (p + x.length) r := by
  have h1 := h.len
  rw [List.length_append] at h1
  refine ⟨by omega, ?_⟩
  rw [← List.drop_drop, h.2, List.drop_left]
theorem AtP.self {l : Bytes} {p : Nat} (h : p ≤ l.length) : AtP l p (l.drop p) := ⟨h, rfl⟩
theorem vGet_put {l : Bytes} {p n : Nat} {r : Bytes} (h : AtP l p (vPut n ++ r)) (hn : n < 18446744073709551616) : vGet l p = (n, p + (vPut n).length, 0) := by
  have := vGo_put n n (Nat.le_refl _) 0 0 r (by omega) (by omega)
  exact vGet_ok (by rw [h.2, this]; simp)
theorem vGet_inv {l : Bytes} {p : Nat} (hp : p ≤ l.length) (h : (vGet l p).2.2 = 0) : AtP l p (vPut (vGet l p).1 ++ l.drop (vGet l p).2.1) ∧ (vGet l p).2.1 = p + (vPut (vGet l p).1).length ∧ (vGet l p).2.1 ≤ l.length ∧ (vGet l p).1 < 18446744073709551616 := by
  have hb := vGet_bd l p hp
  have hg : (vGo (l.drop p) 0 0) = ((vGo (l.drop p) 0 0).1, (vGo (l.drop p) 0 0).2.1, 0) := by
    have h' : (vGo (l.drop p) 0 0).2.2 = 0 := h
    conv => lhs; rw [show vGo (l.drop p) 0 0 = ((vGo (l.drop p) 0 0).1, (vGo (l.drop p) 0 0).2.1, (vGo (l.drop p) 0 0).2.2) from rfl, h']
  obtain ⟨m, r, h1, h2, h3, _⟩ := vGo_inv _ _ _ _ _ (by omega) hg
  have h4 := vGet_ok hg
  have h5 : (vGet l p).1 = m := by rw [h4]; simpa using h2
  have h6 : (vGet l p).2.1 = p + (vPut m).length := by rw [h4, h3]; simp
  have h7 : AtP l p (vPut m ++ r) := ⟨hp, h1⟩
  have h8 := h7.step
  refine ⟨?_, by rw [h6, h5], hb.2.1, by have := hb.1; omega⟩
  rw [h5, h6, h8.2]; exact h7
theorem cNum_put {l : Bytes} {p n : Nat} {r : Bytes} (h : AtP l p (vPut n ++ r)) (hn : n < 18446744073709551616) : cNum l p 0 = (n, p + (vPut n).length, 0) := by
  unfold cNum; rw [vGet_put h hn]; simp
theorem cNum_inv {l : Bytes} {p : Nat} {e : Int} (hp : p ≤ l.length) (h : (cNum l p e).2.2 = 0) : e = 0 ∧ AtP l p (vPut (cNum l p e).1 ++ l.drop (cNum l p e).2.1) ∧ (cNum l p e).2.1 ≤ l.length ∧ (cNum l p e).1 < 18446744073709551616 := by
  have he := (cNum_zero hp h).1
  subst he
  unfold cNum at *
  rw [if_neg (by simp)] at *
  have := vGet_inv hp (by simpa using h)
  exact ⟨rfl, this.1, this.2.2⟩
theorem cUint_put {l : Bytes} {p n m : Nat} {r : Bytes} (h : AtP l p (vPut n ++ r)) (hn : n ≤ m) (hn2 : n ≤ 16777216) : cUint l p 0 m = (n, p + (vPut n).length, 0) := by
  unfold cUint
  rw [cNum_put h (by omega)]
  simp only
  rw [if_neg (by simp), if_neg (by omega)]
theorem cUint_inv {l : Bytes} {p : Nat} {e : Int} {m : Nat} (hp : p ≤ l.length) (h : (cUint l p e m).2.2 = 0) : e = 0 ∧ AtP l p (vPut (cUint l p e m).1 ++ l.drop (cUint l p e m).2.1) ∧ (cUint l p e m).2.1 ≤ l.length := by
  have h0 := @cNum_inv l p e hp
  unfold cUint at *
  simp only at *
  split at h
  · rename_i h2; exact absurd h h2
  · rename_i h2
    split at h
    · simp at h
    · rename_i h3
      rw [if_neg h2, if_neg h3]
      have := h0 (by simpa using h2)
      exact ⟨this.1, this.2.1, this.2.2.1⟩
theorem cInt_put {l : Bytes} {p : Nat} {n : Int} {r : Bytes} (h : AtP l p (vPut (zig n) ++ r)) (h0 : -9223372036854775808 ≤ n) (h1 : n ≤ 9223372036854775807) : cInt l p 0 = (n, p + (vPut (zig n)).length, 0) := by
  unfold cInt
  rw [cNum_put h (zig_lt n h0 h1)]
  simp only
  rw [if_neg (by simp), zag_zig]
theorem cInt_inv {l : Bytes} {p : Nat} {e : Int} (hp : p ≤ l.length) (h : (cInt l p e).2.2 = 0) : e = 0 ∧ AtP l p (vPut (zig (cInt l p e).1) ++ l.drop (cInt l p e).2.1) ∧ (cInt l p e).2.1 ≤ l.length := by
  have h0 := @cNum_inv l p e hp
  unfold cInt at *
  simp only at *
  split at h
  · rename_i h2; exact absurd h h2
  · rename_i h2
    rw [if_neg h2]
    have := h0 (by simpa using h2)
    refine ⟨this.1, ?_, this.2.2.1⟩
    rw [zig_zag]; exact this.2.1
theorem cBytes_put {l : Bytes} {p : Nat} {x r : Bytes} (h : AtP l p (x ++ r)) : cBytes l p 0 x.length = (x, p + x.length, 0) := by
  have h1 := h.len
  rw [List.length_append] at h1
  rw [cBytes_ok (by omega), h.2, List.take_left]
theorem cBytes_inv {l : Bytes} {p : Nat} {e : Int} {n : Nat} (hp : p ≤ l.length) (h : (cBytes l p e n).2.2 = 0) : e = 0 ∧ AtP l p ((cBytes l p e n).1 ++ l.drop (cBytes l p e n).2.1) ∧ (cBytes l p e n).2.1 ≤ l.length ∧ (cBytes l p e n).1.length = n := by
  unfold cBytes at *
  by_cases he : e = 0
  · subst he
    rw [if_neg (by simp)] at *
    rw [if_neg (by omega)] at *
    by_cases h2 : (l.length : Int) - p < n
    · rw [if_pos h2] at h; simp at h
    · rw [if_neg h2]
      simp only [Int.toNat_natCast]
      refine ⟨trivial, ⟨hp, ?_⟩, by omega, by rw [List.length_take, List.length_drop]; omega⟩
      rw [← List.drop_drop, List.take_append_drop]
  · rw [if_pos he] at h; exact absurd h he
theorem cText_put {l : Bytes} {p m : Nat} {x r : Bytes} (h : AtP l p (vPut x.length ++ (x ++ r))) (hn : x.length ≤ m) (hn2 : x.length ≤ 16777216) : cText l p 0 m = (x, p + (vPut x.length).length + x.length, 0) := by
  unfold cText
  rw [cUint_put h hn hn2]
  simp only
  rw [cBytes_put h.step]
  simp
theorem cText_inv {l : Bytes} {p : Nat} {e : Int} {m : Nat} (hp : p ≤ l.length) (h : (cText l p e m).2.2 = 0) : e = 0 ∧ AtP l p (vPut (cText l p e m).1.length ++ (cText l p e m).1 ++ l.drop (cText l p e m).2.1) ∧ (cText l p e m).2.1 ≤ l.length := by
  unfold cText at *
  simp only at *
  by_cases h2 : (cBytes l (cUint l p e m).2.1 (cUint l p e m).2.2 (cUint l p e m).1).2.2 = 0
  · rw [if_neg (by simpa using h2)] at *
    have hb := cUint_bd l p e m hp
    have h3 := cBytes_inv hb.2.2 h2
    have h4 := cUint_inv hp h3.1
    refine ⟨h4.1, ?_, h3.2.2.1⟩
    rw [h3.2.2.2, List.append_assoc, ← h3.2.1.2]
    exact h4.2.1
  · rw [if_pos h2] at h; exact absurd h h2
end Go.Proofs.YtdejljgoebcmpaaDoor
/- Plain: a node of version 1 is read there and back. -/
namespace Go.Proofs.YtdejljgoebcmpaaDoor.Pl
def intB (x : Int) : Bytes := vPut (zig x)
def textB (t : ByteArray) : Bytes := vPut t.size ++ t.data.toList
def kidB (k : Int) : Bytes := vPut k.toNat
theorem nodeBytes_eq (n : Node) : nodeBytes n = vPut n.kind.toNat ++ (n.ints.flatMap intB ++ (n.texts.flatMap textB ++ (vPut n.kids.length ++ n.kids.flatMap kidB))) := by
  unfold nodeBytes
  simp only [List.append_assoc]
  rfl
theorem gInts_put {l : Bytes} : ∀ (cs ints acc : List Int) (p : Nat) (r : Bytes), ints.length = cs.length → (∀ j, j < ints.length → inC (cs.getD j 0) (ints.getD j 0) = true) →
    (∀ x ∈ ints, -9223372036854775808 ≤ x ∧ x ≤ 9223372036854775807) → AtP l p (ints.flatMap intB ++ r) → gInts l cs (acc, p, 0) = (acc ++ ints, p + (ints.flatMap intB).length, 0)
  | [], [], acc, p, r, _, _, _, _ => by simp [gInts]
  | [], x :: xs, acc, p, r, h, _, _, _ => by simp at h
  | c :: cs, [], acc, p, r, h, _, _, _ => by simp at h
  | c :: cs, x :: xs, acc, p, r, h, hc, hb, ha => by
    have h1 : gInts l (c :: cs) (acc, p, 0) = gInts l cs (gI l (acc, p, 0) c) := rfl
    rw [List.flatMap_cons, List.append_assoc] at ha
    have hx := hb x (by simp)
    have h2 := cInt_put ha hx.1 hx.2
    have h3 : inC c x = true := hc 0 (by simp)
    have h4 : gI l (acc, p, 0) c = (acc ++ [x], p + (intB x).length, 0) := by
      unfold gI
      simp only
      rw [h2]
      simp only
      rw [if_pos h3]
      rfl
    rw [h1, h4, gInts_put cs xs (acc ++ [x]) (p + (intB x).length) r (by simpa using h) (fun j hj => hc (j + 1) (by simpa using hj)) (fun y hy => hb y (List.mem_cons_of_mem _ hy)) ha.step]
    rw [List.flatMap_cons, List.length_append]
    simp
    omega
theorem gInts_inv {l : Bytes} {cs : List Int} : ∀ {st : St Int}, st.2.1 ≤ l.length → (gInts l cs st).2.2 = 0 →
    ∃ xs, (gInts l cs st).1 = st.1 ++ xs ∧ st.2.2 = 0 ∧ AtP l st.2.1 (xs.flatMap intB ++ l.drop (gInts l cs st).2.1) ∧ (gInts l cs st).2.1 ≤ l.length := by
  induction cs with
  | nil => intro st hp h; exact ⟨[], by simp [gInts], h, AtP.self hp, hp⟩
  | cons c cs ih =>
    intro st hp h
    have h1 : gInts l (c :: cs) st = gInts l cs (gI l st c) := rfl
    rw [h1] at h ⊢
    have hb := cInt_bd l st.2.1 st.2.2 hp
    obtain ⟨xs, e1, e2, e3, e4⟩ := ih (st := gI l st c) hb h
    have h3 : (cInt l st.2.1 st.2.2).2.2 = 0 := by
      unfold gI at e2
      simp only at e2
      split at e2
      · exact e2
      · exact (cFail_zero e2 (by decide)).elim
    have h4 := cInt_inv hp h3
    refine ⟨(cInt l st.2.1 st.2.2).1 :: xs, by rw [e1]; simp [gI], h4.1, ?_, e4⟩
    rw [List.flatMap_cons, List.append_assoc, ← e3.2]
    exact h4.2.1
theorem textB_eq (t : ByteArray) : textB t = vPut t.data.toList.length ++ t.data.toList := by unfold textB; simp
theorem gTexts_put {l : Bytes} {lim : Nat} {acc : List ByteArray} {p : Nat} : ∀ (k : Nat) (ts : List ByteArray) (r : Bytes), ts.length = k → (∀ t ∈ ts, t.size ≤ lim ∧ t.size ≤ 16777216) → AtP l p (ts.flatMap textB ++ r) →
    gTexts l lim k (acc, p, 0) = (acc ++ ts, p + (ts.flatMap textB).length, 0)
  | 0, ts, r, h, _, _ => by
    obtain rfl := List.eq_nil_of_length_eq_zero h
    simp [gTexts]
  | k + 1, ts, r, h, hs, ha => by
    rcases List.eq_nil_or_concat ts with rfl | ⟨us, t, rfl⟩
    · simp at h
    · simp only [List.concat_eq_append] at *
      rw [List.flatMap_append, List.append_assoc] at ha
      have ih := gTexts_put (acc := acc) k us _ (by simpa using h) (fun u hu => hs u (by simp [hu])) ha
      show gT l lim (gTexts l lim k (acc, p, 0)) = _
      rw [ih]
      have h1 := ha.step
      rw [List.flatMap_cons, List.flatMap_nil, List.append_nil, textB_eq, List.append_assoc] at h1
      have ht := hs t (by simp)
      have hsz : t.data.toList.length = t.size := by simp
      have h2 := cText_put (m := lim) h1 (by omega) (by omega)
      unfold gT
      simp only
      rw [h2]
      rw [List.flatMap_append, List.length_append, List.flatMap_cons, List.flatMap_nil, List.append_nil, textB_eq, List.length_append]
      simp only [str_data, List.append_assoc]
      simp only [Prod.mk.injEq, and_true, true_and]
      omega
theorem str_toList (x : Bytes) : (str x).data.toList = x := by simp [str]
theorem gTexts_inv {l : Bytes} {lim : Nat} {st : St ByteArray} (hp : st.2.1 ≤ l.length) : ∀ k, (gTexts l lim k st).2.2 = 0 →
    ∃ ts, (gTexts l lim k st).1 = st.1 ++ ts ∧ st.2.2 = 0 ∧ AtP l st.2.1 (ts.flatMap textB ++ l.drop (gTexts l lim k st).2.1) ∧ (gTexts l lim k st).2.1 ≤ l.length
  | 0, h => ⟨[], by simp [gTexts], h, AtP.self hp, hp⟩
  | k + 1, h => by
    have hpk : (gTexts l lim k st).2.1 ≤ l.length := by
      have : ∀ j, (gTexts l lim j st).2.1 ≤ l.length := by
        intro j
        induction j with
        | zero => exact hp
        | succ j ih => exact (cText_bd l (gTexts l lim j st).2.1 (gTexts l lim j st).2.2 lim ih).2
      exact this k
    have h1 := cText_inv hpk (show (cText l (gTexts l lim k st).2.1 (gTexts l lim k st).2.2 lim).2.2 = 0 from h)
    obtain ⟨ts, e1, e2, e3, e4⟩ := gTexts_inv hp k h1.1
    refine ⟨ts ++ [str (cText l (gTexts l lim k st).2.1 (gTexts l lim k st).2.2 lim).1], ?_, e2, ?_, h1.2.2⟩
    · show (gT l lim (gTexts l lim k st)).1 = _
      unfold gT
      rw [e1]; simp
    · rw [List.flatMap_append, List.append_assoc, List.flatMap_cons, List.flatMap_nil, List.append_nil, textB_eq, str_toList]
      have h2 := h1.2.1.2
      show AtP l st.2.1 (ts.flatMap textB ++ ((vPut (cText l (gTexts l lim k st).2.1 (gTexts l lim k st).2.2 lim).1.length ++ (cText l (gTexts l lim k st).2.1 (gTexts l lim k st).2.2 lim).1) ++ l.drop (cText l (gTexts l lim k st).2.1 (gTexts l lim k st).2.2 lim).2.1))
      rw [← h2]; exact e3
theorem gKids_put {l : Bytes} {a c : Nat} (hc : c ≤ 16777216) : ∀ (ks acc : List Int) (p : Nat) (r : Bytes), (∀ k ∈ ks, (a : Int) < k ∧ k < c) → AtP l p (ks.flatMap kidB ++ r) →
    gKids l a c ks.length (acc, p, 0) = (acc ++ ks, p + (ks.flatMap kidB).length, 0)
  | [], acc, p, r, _, _ => by simp [gKids]
  | k :: ks, acc, p, r, hk, ha => by
    rw [List.flatMap_cons, List.append_assoc] at ha
    have h1 := hk k (by simp)
    have h2 := cUint_put (m := 16777216) ha (by omega) (by omega)
    have h4 : gK l a c (acc, p, 0) = (acc ++ [k], p + (kidB k).length, 0) := by
      unfold gK
      simp only
      rw [h2]
      simp only
      rw [if_neg (by omega), show ((k.toNat : Nat) : Int) = k from by omega]
      rfl
    show gKids l a c (ks.length + 1) (acc, p, 0) = _
    unfold gKids
    rw [if_pos rfl, h4, gKids_put hc ks (acc ++ [k]) _ r (fun x hx => hk x (List.mem_cons_of_mem _ hx)) ha.step, List.flatMap_cons, List.length_append]
    simp
    omega
theorem gKids_inv {l : Bytes} {a c : Nat} : ∀ (k : Nat) {st : St Int}, st.2.1 ≤ l.length → (gKids l a c k st).2.2 = 0 →
    ∃ ks, (gKids l a c k st).1 = st.1 ++ ks ∧ st.2.2 = 0 ∧ ks.length = k ∧ AtP l st.2.1 (ks.flatMap kidB ++ l.drop (gKids l a c k st).2.1) ∧ (gKids l a c k st).2.1 ≤ l.length ∧ ∀ x ∈ ks, (a : Int) < x ∧ x < c
  | 0, st, hp, h => ⟨[], by simp [gKids], h, rfl, AtP.self hp, hp, by simp⟩
  | k + 1, st, hp, h => by
    unfold gKids at h ⊢
    by_cases h0 : st.2.2 = 0
    · rw [if_pos h0] at h ⊢
      have hb := (cUint_bd l st.2.1 st.2.2 16777216 hp).2.2
      obtain ⟨ks, e1, e2, e3, e4, e5, e6⟩ := gKids_inv k (l := l) (a := a) (c := c) (st := gK l a c st) hb h
      have h3 : (cUint l st.2.1 st.2.2 16777216).2.2 = 0 ∧ ¬ ((cUint l st.2.1 st.2.2 16777216).1 ≤ a ∨ c ≤ (cUint l st.2.1 st.2.2 16777216).1) := by
        unfold gK at e2
        simp only at e2
        split at e2
        · exact (cFail_zero e2 (by decide)).elim
        · rename_i hh; exact ⟨e2, hh⟩
      have h4 := cUint_inv hp h3.1
      refine ⟨((cUint l st.2.1 st.2.2 16777216).1 : Int) :: ks, by rw [e1]; simp [gK], h0, by simp [e3], ?_, e5, ?_⟩
      · rw [List.flatMap_cons, List.append_assoc, ← e4.2]
        exact h4.2.1
      · intro x hx
        rcases List.mem_cons.1 hx with rfl | hx
        · omega
        · exact e6 x hx
    · rw [if_neg h0] at h; exact absurd h h0
theorem fieldErr_texts {ts : List ByteArray} {k : Nat} : fieldErr [] ts 0 ⟨[], k, 0, -1⟩ = 0 ↔ ts.length = k ∧ ¬ 0 ≤ idxBad ts 0 := by
  unfold fieldErr
  rw [if_neg (by simp [nums, numsTo])]
  constructor
  · intro h
    by_cases h2 : ts.length ≠ k ∨ 0 ≤ idxBad ts 0
    · rw [if_pos h2] at h; simp at h
    · exact ⟨Classical.byContradiction fun e => h2 (.inl e), fun e => h2 (.inr e)⟩
  · rintro ⟨h1, h2⟩
    rw [if_neg (by simp only; omega)]
    simp
/-- What of a node reading it takes. -/
structure RdOk (n : Node) (sp : Spec) (a c edges : Nat) (lim : Lim) : Prop where
  spec : oldSpec n.kind = some sp
  fits : Fits n sp
  kids : ∀ k ∈ n.kids, (a : Int) < k ∧ k < c
  cnt : c ≤ 16777216
  few : n.kids.length ≤ edges
  few2 : n.kids.length ≤ 16777216
  ints : ∀ x ∈ n.ints, -9223372036854775808 ≤ x ∧ x ≤ 9223372036854775807
  texts : ∀ t ∈ n.texts, t.size ≤ lim.t.toNat ∧ t.size ≤ 16777216
theorem oldGet_put {l : Bytes} {p : Nat} {n : Node} {sp : Spec} {a c edges : Nat} {lim : Lim} {r : Bytes} (h : RdOk n sp a c edges lim) (ha : AtP l p (nodeBytes n ++ r)) :
    oldGet l p 0 a c edges lim = (n, p + (nodeBytes n).length, 0) := by
  obtain ⟨hk, _, _, _⟩ := oldSpec_some h.spec
  have hkk : ((n.kind.toNat : Nat) : Int) = n.kind := by omega
  rw [nodeBytes_eq, List.append_assoc] at ha
  have h1 := cUint_put (m := 16777216) ha (by omega) (by omega)
  have ha1 := ha.step
  rw [List.append_assoc] at ha1
  have h2 := gInts_put sp.ints n.ints [] _ _ h.fits.ints h.fits.inc h.ints ha1
  have ha2 := ha1.step
  rw [List.append_assoc] at ha2
  have h3 := gTexts_put (acc := []) (lim := lim.t.toNat) sp.texts n.texts _ h.fits.texts h.texts ha2
  have ha3 := ha2.step
  rw [List.append_assoc] at ha3
  have h4 := cUint_put (m := edges) ha3 h.few h.few2
  have h5 := gKids_put h.cnt n.kids [] _ _ h.kids ha3.step
  have hs := h.spec
  unfold oldGet
  simp only
  rw [h1]
  simp only
  rw [hkk, hs]
  simp only [Option.getD, Option.isSome, if_true]
  rw [h2]
  simp only [List.nil_append]
  rw [h3]
  simp only [List.nil_append]
  have hf : fieldErr [] n.texts 0 ⟨[], sp.texts, 0, -1⟩ = 0 := fieldErr_texts.2 ⟨h.fits.texts, h.fits.utf⟩
  rw [hf, if_neg (by simp), h4]
  simp only
  rw [if_neg (by have := h.fits.least; have := h.fits.most; omega), h5]
  simp only [List.nil_append]
  have hlen : (nodeBytes n).length = (vPut n.kind.toNat).length + ((n.ints.flatMap intB).length + ((n.texts.flatMap textB).length + ((vPut n.kids.length).length + (n.kids.flatMap kidB).length))) := by
    rw [nodeBytes_eq]; simp only [List.length_append]
  rw [hlen]
  simp only [Nat.add_assoc]
theorem oldGet_inv {l : Bytes} {p : Nat} {e : Int} {a c edges : Nat} {lim : Lim} (hp : p ≤ l.length) (h : (oldGet l p e a c edges lim).2.2 = 0) :
    e = 0 ∧ AtP l p (nodeBytes (oldGet l p e a c edges lim).1 ++ l.drop (oldGet l p e a c edges lim).2.1) ∧ (oldGet l p e a c edges lim).2.1 ≤ l.length ∧ ∀ k ∈ (oldGet l p e a c edges lim).1.kids, (a : Int) < k ∧ k < c := by
  unfold oldGet at h ⊢
  simp only at h ⊢
  have i0 := fun h => cUint_inv (l := l) (p := p) (e := e) (m := 16777216) hp h
  have b0 := (cUint_bd l p e 16777216 hp).2.2
  generalize cUint l p e 16777216 = r at *
  generalize (oldSpec (r.1 : Int)).getD noSpec = sp at *
  have i1 := @gInts_inv l sp.ints ([], r.2.1, if (oldSpec (r.1 : Int)).isSome then r.2.2 else cFail r.2.2 9) b0
  have b1 := @gInts_bd l sp.ints ([], r.2.1, if (oldSpec (r.1 : Int)).isSome then r.2.2 else cFail r.2.2 9) b0
  generalize gInts l sp.ints ([], r.2.1, if (oldSpec (r.1 : Int)).isSome then r.2.2 else cFail r.2.2 9) = ai at *
  have i2 := @gTexts_inv l lim.t.toNat ([], ai.2.1, ai.2.2) b1.1 sp.texts
  have b2 := @gTexts_bd l lim.t.toNat ([], ai.2.1, ai.2.2) b1.1 (by simp) sp.texts
  generalize gTexts l lim.t.toNat sp.texts ([], ai.2.1, ai.2.2) = tx at *
  generalize fieldErr [] tx.1 0 ⟨[], sp.texts, 0, -1⟩ = fe at *
  have i3 := fun h => @cUint_inv l tx.2.1 (if fe ≠ 0 then cFail tx.2.2 fe else tx.2.2) edges b2.1 h
  have b3 := cUint_bd l tx.2.1 (if fe ≠ 0 then cFail tx.2.2 fe else tx.2.2) edges b2.1
  generalize cUint l tx.2.1 (if fe ≠ 0 then cFail tx.2.2 fe else tx.2.2) edges = ku at *
  have i4 := @gKids_inv l a c ku.1 ([], ku.2.1, if (ku.1 : Int) < sp.least ∨ (0 ≤ sp.most ∧ sp.most < ku.1) then cFail ku.2.2 12 else ku.2.2) b3.2.2 h
  generalize gKids l a c ku.1 ([], ku.2.1, if (ku.1 : Int) < sp.least ∨ (0 ≤ sp.most ∧ sp.most < ku.1) then cFail ku.2.2 12 else ku.2.2) = q at *
  simp only at i1 i2 i4 b1 b2
  obtain ⟨ks, k1, k2, k3, k4, k5, k6⟩ := i4
  have h4 : ku.2.2 = 0 := by
    split at k2
    · exact (cFail_zero k2 (by decide)).elim
    · exact k2
  obtain ⟨j1, j2, j3⟩ := i3 h4
  have h6 : tx.2.2 = 0 := by
    split at j1
    · rename_i hf; exact (cFail_zero j1 hf).elim
    · exact j1
  obtain ⟨ts, t1, t2, t3, t4⟩ := i2 h6
  obtain ⟨xs, x1, x2, x3, x4⟩ := i1 t2
  have h9 : r.2.2 = 0 := by
    split at x2
    · exact x2
    · exact (cFail_zero x2 (by decide)).elim
  obtain ⟨y1, y2, y3⟩ := i0 h9
  rw [List.nil_append] at k1 t1 x1
  refine ⟨y1, ?_, k5, fun k hk => k6 k (k1 ▸ hk)⟩
  rw [nodeBytes_eq, k1, t1, x1]
  simp only [List.append_assoc, Int.toNat_natCast]
  rw [← k4.2, k3, ← j2.2, ← t3.2, ← x3.2]
  exact y2
end Go.Proofs.YtdejljgoebcmpaaDoor.Pl
