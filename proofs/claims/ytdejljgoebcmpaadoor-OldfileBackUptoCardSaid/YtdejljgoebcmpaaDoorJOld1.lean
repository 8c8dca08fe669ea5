/- Texts of mine, joined: what the functions compute that the law reaches, each under its own conditions, and plain lemmas on it. -/
import Derived.Below
import Derived.Laws.AppendOwn
import Derived.Laws.BytesArg
import Derived.WalkKit
import Derived.KernelRfl
import Derived.OneCell
import Derived.OwnWalk
import Derived.LoopTactic
import Derived.Lib.Hide
import Derived.Outline
import Derived.Deep.QuietTactic
import Derived.BigQuiet
import Derived.WalkSpells
import Derived.Deep.LoopGhost
import Derived.Test.YtdejljgoebcmpaaDoorProg
import Derived.Shelf.Strings.Builder1
import Derived.Shelf.Strings.BuilderF
import Derived.Shelf.Strings.BuilderK
import Derived.Shelf.Unicode.Decode
import Derived.Shelf.Bits.Mul64
import Derived.Shelf.Unicode.DecodeSlow
import Derived.Shelf.Unicode.DecodeAny
import Derived.Ground.Names2Prog
import Derived.Shelf.Slices.Clone
import Derived.Deep.RegionLaw
import Derived.Laws.CopyOwn
import Derived.Deep.OwnRows
import Derived.Laws.BitsLemmas
import Derived.Maps.Own
import Derived.Maps.OwnOps
import Derived.Maps.OwnSet
import Derived.Maps.Views
import Derived.Maps.AppendAt
import Derived.Laws.OwnMore
import Derived.WalkSmall
/- What of memory has turned, and how what is read, or owned, lives on. No program in sight. -/
namespace Go.Proofs.YtdejljgoebcmpaaDoor
open Go.RowKit

/-- Nothing but the blocks of S, and new ones, has turned. -/
structure Upd (S : Nat → Prop) (w w' : World) : Prop where
  os : w'.os = w.os
  tape : w'.tape = w.tape
  output : w'.output = w.output
  size : w.heap.size ≤ w'.heap.size
  block : ∀ k, k < w.heap.size → ¬ S k → w'.heap[k]? = w.heap[k]?
theorem ret_int {k : IntKind} {a b : Int} (h : a = b) : Ending.returned (.int k a) = .returned (.int k b) := by rw [h]
theorem ret_str {a b : ByteArray} (h : a = b) : Ending.returned (.string a) = .returned (.string b) := by rw [h]
theorem ret_ib {k : IntKind} {a a' : Int} {b : Bool} (h : a = a') : Ending.returned (.tuple #[.int k a, .bool b]) = .returned (.tuple #[.int k a', .bool b]) := by rw [h]
theorem ret_bool {a b : Bool} (h : a = b) : Ending.returned (.bool a) = .returned (.bool b) := by rw [h]
namespace Upd
variable {S : Nat → Prop} {a w w' : World}
theorem refl (S : Nat → Prop) (w : World) : Upd S w w := ⟨rfl, rfl, rfl, Nat.le_refl _, fun _ _ _ => rfl⟩
theorem trans {c : World} (h : Upd S a w) (k : Upd S w c) : Upd S a c :=
  ⟨k.os.trans h.os, k.tape.trans h.tape, k.output.trans h.output, Nat.le_trans h.size k.size, fun i hi hs => (k.block i (by have := h.size; omega) hs).trans (h.block i hi hs)⟩
theorem drew (h : Upd S a w) : Upd S a w.drew := ⟨h.os, h.tape, h.output, h.size, h.block⟩
theorem drewN (h : Upd S a w) (n : Nat) : Upd S a (w.drewN n) := ⟨h.os, h.tape, h.output, h.size, h.block⟩
theorem alloc (h : Upd S a w) (o : Obj) : Upd S a (w.alloc o) :=
  h.trans ⟨rfl, rfl, rfl, by simp, fun k hk _ => Below.heap_alloc _ _ _ hk⟩
theorem setCell (h : Upd S a w) {p : Addr} (hp : S p.block ∨ a.heap.size ≤ p.block) (u : Value) : Upd S a (w.setCell p u) :=
  ⟨h.os, h.tape, h.output, by have := h.size; simp [World.setCell]; omega, fun k hk hs => by
    rw [Below.heap_setCell _ _ _ _ (by rintro rfl; rcases hp with hp | hp; exact hs hp; omega)]; exact h.block k hk hs⟩
theorem set {g : Nat} (h : Upd S a w) (hg : S g ∨ a.heap.size ≤ g) (j : Nat) (u : Value) : Upd S a (w.setCell ⟨g, j, none⟩ u) := h.setCell (p := ⟨g, j, none⟩) hg u
theorem of_below (h : Below w.heap.size w w') : Upd S w w' := ⟨h.os, h.tape, h.output, h.size, fun k hk _ => h.block k hk⟩
theorem mono {T : Nat → Prop} (h : Upd S w w') (hs : ∀ k, S k → T k) : Upd T w w' := ⟨h.os, h.tape, h.output, h.size, fun k hk ht => h.block k hk (fun h' => ht (hs k h'))⟩
theorem grown {row : Option Nat} (h : w.grownBy w' row) : Upd (fun k => row = some k) w w' := ⟨h.os, h.tape, h.output, h.size, fun k hk hs => h.block k hk (fun e => hs e.symm)⟩
theorem below {B : Nat} (h : Below B a w) (k : Upd S w w') (hB : B ≤ w.heap.size) (hS : ∀ i, S i → B ≤ i) : Below B a w' :=
  ⟨k.os.trans h.os, k.tape.trans h.tape, k.output.trans h.output, Nat.le_trans h.size k.size, fun i hi => (k.block i (by omega) (fun hs => by have := hS i hs; omega)).trans (h.block i hi)⟩
/-- A step behind: what is new for it may be in S, too. -/
theorem after {T : Nat → Prop} {c : World} (h : Upd S a w) (k : Upd T w c) (hT : ∀ i, T i → S i ∨ a.heap.size ≤ i) : Upd S a c :=
  ⟨k.os.trans h.os, k.tape.trans h.tape, k.output.trans h.output, Nat.le_trans h.size k.size, fun i hi hs => (k.block i (by have := h.size; omega) (fun ht => by rcases hT i ht with h' | h'; exact hs h'; omega)).trans (h.block i hi hs)⟩
theorem own {base : Nat} {e : TypeId} {size n : Nat} {v : Value} {xs : List Value} (h : w.ownsRow base e size v n xs) (k : Upd S w w') (hS : ∀ i, v.ownBlock = some i → ¬ S i) : w'.ownsRow base e size v n xs := by
  obtain ⟨h1, h2⟩ := h
  refine ⟨h1, ?_⟩
  rcases h2 with h2 | ⟨g, cap, cur, hv, hg, hh, r⟩
  · exact Or.inl h2
  · exact Or.inr ⟨g, cap, cur, hv, hg, by rw [k.block g (Array.getElem?_eq_some_iff.1 hh).1 (hS g (by rw [hv]; rfl))]; exact hh, r⟩
end Upd
theorem own_none (W : World) (base : Nat) (e : TypeId) (size : Nat) : W.ownsRow base e size (.slice none 0 0) 0 [] := ⟨by simp, .inl ⟨rfl, rfl⟩⟩
theorem own_ge {w : World} {base : Nat} {e : TypeId} {size n : Nat} {v : Value} {xs : List Value} (h : w.ownsRow base e size v n xs) (k : Nat) (hk : v.ownBlock = some k) : base ≤ k := by
  rcases h.2 with ⟨rfl, _⟩ | ⟨g, cap, cur, rfl, hb, _⟩
  · simp [Value.ownBlock] at hk
  · have : g = k := by simpa [Value.ownBlock] using hk
    omega
theorem own_lt {w : World} {base : Nat} {e : TypeId} {size n : Nat} {v : Value} {xs : List Value} (h : w.ownsRow base e size v n xs) (k : Nat) (hk : v.ownBlock = some k) : k < w.heap.size := by
  rcases h.2 with ⟨rfl, _⟩ | ⟨g, cap, cur, rfl, hb, hh, _⟩
  · simp [Value.ownBlock] at hk
  · have : g = k := by simpa [Value.ownBlock] using hk
    subst this
    exact (Array.getElem?_eq_some_iff.1 hh).1
theorem own_slice {w : World} {base : Nat} {e : TypeId} {size n : Nat} {v : Value} {xs : List Value} (h : w.ownsRow base e size v n xs) : ∃ A c, v = .slice A n c := by
  rcases h.2 with ⟨rfl, rfl⟩ | ⟨g, cap, cur, rfl, _⟩
  · exact ⟨_, _, rfl⟩
  · exact ⟨_, _, rfl⟩
/-- A block that holds no row of elements of type e. -/
def notRow (e : TypeId) (w : World) (k : Nat) : Prop := ∀ cells fr, w.heap[k]? ≠ some (.cells cells e fr)
theorem own_notRow {w : World} {base : Nat} {e : TypeId} {size n : Nat} {v : Value} {xs : List Value} (h : w.ownsRow base e size v n xs) {k : Nat} (hn : notRow e w k) : v.ownBlock ≠ some k := by
  rcases h.2 with ⟨rfl, _⟩ | ⟨g, cap, cur, rfl, hb, hh, _⟩
  · simp [Value.ownBlock]
  · intro e'
    have : g = k := by simpa [Value.ownBlock] using e'
    subst this
    exact hn _ _ hh
theorem notRow_of {e t : TypeId} {w : World} {k : Nat} {cells : Array Value} {fr : Nat × Nat} (h : w.heap[k]? = some (.cells cells t fr)) (hne : t ≠ e) : notRow e w k := by
  intro c f h'
  rw [h] at h'
  injection h' with h'
  injection h' with _ h' _
  exact hne h'
theorem own_new {w : World} {base : Nat} {e : TypeId} {size n : Nat} {v : Value} {xs : List Value} (h : w.ownsRow base e size v n xs) (o : Obj) : (w.alloc o).ownsRow base e size v n xs :=
  ((Upd.refl (fun _ => False) w).alloc o).own h (fun _ _ h => h)

def u8s (l : List UInt8) : List Value := l.map fun c => .int .u8 c.toNat
theorem u8s_snoc (l : List UInt8) (c : UInt8) : u8s (l ++ [c]) = u8s l ++ [.int .u8 c.toNat] := by simp [u8s]
theorem u8s_append (l m : List UInt8) : u8s (l ++ m) = u8s l ++ u8s m := by simp [u8s]
theorem str_nums (l : List UInt8) : strOfNums (l.map fun c => (c.toNat : Int)) = ⟨l.toArray⟩ := by
  unfold strOfNums; congr 2; rw [List.map_map]; conv => rhs; rw [← List.map_id l]
  apply List.map_congr_left; intro c _; simp
/-- string(bytes), of bytes of the call's own. -/
theorem own_conv {P : Program} {w : World} {base n : Nat} {e' src dst e : TypeId} {v : Value} {l : List UInt8} (hs : P.underlying src = some (.slice e)) (he : P.underlying e = some (.int .u8)) (hd : P.underlying dst = some .string)
    (h : w.ownsRow base e' 1 v n (u8s l)) : (convert src dst v).run P w = .ok (.string ⟨l.toArray⟩) w := by
  have hl : l.length = n := by have := h.1; simp [u8s] at this; exact this
  rcases h.2 with ⟨rfl, rfl⟩ | ⟨g, cap, cur, rfl, _⟩
  · obtain rfl : l = [] := List.eq_nil_of_length_eq_zero hl
    exact run_convert_bytes_nil w src e hs he 0 0 dst hd
  · have h2 := run_convert_bytes_arg (P := P) w src e hs he g 0 n cap (l.map fun c => (c.toNat : Int)) (by simpa using hl) (fun i hi => by
      have hc := h.cells (g := g) rfl i (.int .u8 ((l.getD i 0).toNat : Int)) (by simp [u8s, List.getElem?_eq_getElem (show i < l.length by omega), List.getD_eq_getElem?_getD])
      have ha : (⟨g, 0, none⟩ : Addr).add i = ⟨g, 0 + i, none⟩ := by unfold Addr.add; split <;> simp_all
      rw [ha] at hc
      rw [hc]; simp [List.getD_eq_getElem?_getD, List.getElem?_eq_getElem (show i < l.length by omega)]) dst hd
    rw [str_nums] at h2; exact h2

theorem extract_str (b : ByteArray) (p n : Nat) : b.extract p (p + n) = ⟨((b.data.toList.drop p).take n).toArray⟩ := by
  apply ByteArray.ext
  apply Array.toList_inj.1
  simp [List.take_drop]

/-- string(bytes), of bytes that lie in a new block. -/
theorem new_conv {P : Program} (w : World) {src dst e : TypeId} (e' : TypeId) (hs : P.underlying src = some (.slice e)) (he : P.underlying e = some (.int .u8)) (hd : P.underlying dst = some .string)
    (l : List UInt8) (cs : Array Value) (hcs : cs.toList = u8s l) (n : Nat) (hn : n = l.length) :
    (convert src dst (.slice (some ⟨w.heap.size, 0, none⟩) n n)).run P (w.alloc (.cells cs e')) = .ok (.string ⟨l.toArray⟩) (w.alloc (.cells cs e')) := by
  subst hn
  have h2 := run_convert_bytes_arg (P := P) (w.alloc (.cells cs e')) src e hs he w.heap.size 0 l.length l.length (l.map fun c => (c.toNat : Int)) (by simp) (fun i hi => by
      rw [World.cell?_alloc_at _ _ _ _ rfl, ← Array.getElem?_toList, hcs]
      simp [u8s, hi]) dst hd
  rw [str_nums] at h2; exact h2
/-- An element of an array that is a value, of one cell. -/
theorem run_index_arr {P : Program} (w : World) (t e : TypeId) (n : Nat) (cs : Array Value) (k : IntKind) (i : Nat) (d : TypeDesc) (h : P.underlying t = some (.array n e)) (he : P.underlying e = some d) (hd : (match d with | .struct _ | .array _ _ => true | _ => false) = false)
    (hs : (P.info? e).map (·.size) = some 1) (hi : i < n) (v : Value) (hv : cs[i]? = some v) : (Instr.index t (.agg cs) (.int k i)).run P w = .ok v w := by
  have hsz : (sizeOf e).run P w = .ok 1 w := by
    obtain ⟨x, h1, h2⟩ := Option.map_eq_some_iff.1 hs
    simp [sizeOf, typeInfo, h1, h2]
  have hag : (isAgg e).run P w = .ok false w := by
    unfold isAgg
    rw [Sem.run_bind, run_underlying he w]
    cases d <;> simp_all
  have hp : (part e cs i).run P w = .ok v w := by
    unfold part
    rw [Sem.run_bind, hag]
    simp [hv]
  simp [Instr.index, run_underlying h, asIntOf, hi, Sem.run_bind, hsz, hp]

/-- append of elements that lie in a new block of the call's own (a buildSlice ahead). -/
theorem app_new {P : Program} {ops : Array Oper} {rest : List Oper} {o : Oper} {a : Act} {Q : Exit → Act → World → Prop} {w : World}
    (s x : Operand) (t e : TypeId) (z : Value) (size bytes : Nat) (ht : P.underlying t = some (.slice e)) (hi : (P.info? e).map (fun i => (i.zero, i.size, i.bytes)) = some (some z, size, bytes)) (hz : z.cells.size = size) (hsz : 0 < size)
    (ho : o.op = .call { callee := .builtin .append, args := #[s, x], argTypes := #[t, t] }) (hgd : o.guard = none)
    {base n : Nat} {v : Value} {xs : List Value} (hs : a.eval s = v) (hown : w.ownsRow base e size v n xs) (hbase : base ≤ w.heap.size)
    (news : List Value) (m : Nat) (hl : news.length = m * size) (hx : a.eval x = .slice (some ⟨w.heap.size, 0, none⟩) m m) (h1 : ∀ u ∈ news, u.oneCell' = true) (hb : (n + m) * bytes ≤ 140737488355328) (hb0 : 0 < bytes)
    (h : ∀ v' w', w'.ownsRow base e size v' (n + m) (xs ++ news) → Upd (fun k => v.ownBlock = some k) w w' → wpList P ops Q rest (a.put o.dst v') w') :
    wpList P ops Q (o :: rest) a (w.alloc (.cells news.toArray e)) := by
  obtain ⟨i, hi', he⟩ := Option.map_eq_some_iff.1 hi
  simp only [Prod.mk.injEq] at he
  obtain ⟨e1, e2, e3⟩ := he
  refine wpList_append_own _ hgd s x t ho base e i z size bytes ht hi' e1 e2 e3 hz hsz v n xs hs (own_new hown _) ⟨w.heap.size, 0, none⟩ m m news hx hl ?_ h1 ?_ hb (by simp; omega) ?_
  · intro j u hj
    have hc : (w.alloc (.cells news.toArray e)).cell? ⟨w.heap.size, j, none⟩ = news[j]? := by
      rw [World.cell?_alloc_at _ _ _ _ rfl]; simp
    rw [show (⟨w.heap.size, 0, none⟩ : Addr).add j = ⟨w.heap.size, j, none⟩ from by unfold Addr.add; split <;> simp_all, hc]; exact hj
  · unfold maxLen
    have : n + m ≤ (n + m) * bytes := Nat.le_mul_of_pos_right _ hb0
    omega
  · intro v' w' h2 h3 _
    exact h v' w' h2 (((Upd.refl _ w).alloc _).after (Upd.grown h3) (fun i hi => .inl hi))
end Go.Proofs.YtdejljgoebcmpaaDoor
/- limit.each, Within, Right. -/
namespace Go.Proofs.YtdejljgoebcmpaaDoor
open Go.RowKit

namespace Pl
/-- Limits. -/
structure Lim where
  b : Int
  n : Int
  e : Int
  d : Int
  t : Int
def within (m l : Lim) : Bool := decide (m.b ≤ l.b ∧ m.n ≤ l.n ∧ m.e ≤ l.e ∧ m.d ≤ l.d ∧ m.t ≤ l.t)
def lim0 : Lim := ⟨0, 0, 0, 0, 0⟩
def limAll : Lim := ⟨16777216, 16777216, 16777216, 16777216, 16777216⟩
def right (l : Lim) : Bool := within l limAll && within lim0 l
end Pl
def limV (l : Pl.Lim) : Value := .agg #[.int .i64 l.b, .int .i64 l.n, .int .i64 l.e, .int .i64 l.d, .int .i64 l.t]
def eachC (m l : Pl.Lim) : Array Value := #[.int .i64 m.b, .int .i64 l.b, .int .i64 m.n, .int .i64 l.n, .int .i64 m.e, .int .i64 l.e, .int .i64 m.d, .int .i64 l.d, .int .i64 m.t, .int .i64 l.t]

set_option maxHeartbeats 1000000 in
set_option maxRecDepth 100000 in
theorem lim_each (m l : Pl.Lim) (w : World) :
    Calls Tryd.prog 53 #[limV m, limV l] w fun en w' => en = .returned (.agg (eachC m l)) ∧ Below w.heap.size w w' := by
  obtain ⟨m1, m2, m3, m4, m5⟩ := m
  obtain ⟨l1, l2, l3, l4, l5⟩ := l
  simp only [limV]
  go_enter Tryd.func53, Tryd.ntmps53
  go_wp2_with fail
  have hb : Below w.heap.size w (((w.alloc (.cells #[.int .i64 m1, .int .i64 m2, .int .i64 m3, .int .i64 m4, .int .i64 m5] 26)).alloc (.cells #[.int .i64 l1, .int .i64 l2, .int .i64 l3, .int .i64 l4, .int .i64 l5] 26)).alloc (.cells (eachC ⟨m1, m2, m3, m4, m5⟩ ⟨l1, l2, l3, l4, l5⟩) 98)) :=
    (((Below.refl _ _).alloc (Nat.le_refl _) _).alloc (by simp) _).alloc (by simp; omega) _
  exact bodyPost_ret (v := .agg (eachC ⟨m1, m2, m3, m4, m5⟩ ⟨l1, l2, l3, l4, l5⟩)) (results_cell_row rfl _ _ (w.heap.size + 1 + 1) 98 (eachC ⟨m1, m2, m3, m4, m5⟩ ⟨l1, l2, l3, l4, l5⟩) (0, 0) _ rfl (by show (((w.heap.push _).push _).push _)[w.heap.size + 1 + 1]? = _; rw [Array.getElem?_push]; simp [eachC]) Tryd.underlying98 rfl rfl) rfl ⟨rfl, hb⟩

/-- An element of an array that is a value, of many cells. -/
theorem run_index_agg {P : Program} (w : World) (t e : TypeId) (n sz : Nat) (cs : Array Value) (k : IntKind) (i : Nat) (d : TypeDesc) (h : P.underlying t = some (.array n e)) (he : P.underlying e = some d) (hd : (match d with | .struct _ | .array _ _ => true | _ => false) = true)
    (hs : (P.info? e).map (·.size) = some sz) (hi : i < n) : (Instr.index t (.agg cs) (.int k i)).run P w = .ok (.agg (cs.extract (i * sz) (i * sz + sz))) w := by
  have hsz : (sizeOf e).run P w = .ok sz w := by
    obtain ⟨x, h1, h2⟩ := Option.map_eq_some_iff.1 hs
    simp [sizeOf, typeInfo, h1, h2]
  have hag : (isAgg e).run P w = .ok true w := by
    unfold isAgg
    rw [Sem.run_bind, run_underlying he w]
    cases d <;> simp_all
  have hp : ∀ off, (part e cs off).run P w = .ok (.agg (cs.extract off (off + sz))) w := by
    intro off
    unfold part
    rw [Sem.run_bind, hag]
    simp [Sem.run_bind, hsz]
  simp [Instr.index, run_underlying h, asIntOf, hi, Sem.run_bind, hsz, hp]
theorem cells5 {w : World} {k : Nat} {a b c d e : Value} {t : TypeId} (h : w.heap[k]? = some (.cells #[a, b, c, d, e] t (0, 0))) :
    w.cell? ⟨k, 0, none⟩ = some a ∧ w.cell? ⟨k, 1, none⟩ = some b ∧ w.cell? ⟨k, 2, none⟩ = some c ∧ w.cell? ⟨k, 3, none⟩ = some d ∧ w.cell? ⟨k, 4, none⟩ = some e := by
  unfold World.cell?; rw [h]; exact ⟨rfl, rfl, rfl, rfl, rfl⟩
/-- The first k pairs are within. -/
def okTo (m l : Pl.Lim) (k : Nat) : Prop := (1 ≤ k → m.b ≤ l.b) ∧ (2 ≤ k → m.n ≤ l.n) ∧ (3 ≤ k → m.e ≤ l.e) ∧ (4 ≤ k → m.d ≤ l.d) ∧ (5 ≤ k → m.t ≤ l.t)
def pairL (m l : Pl.Lim) (k : Nat) : Int × Int := match k with | 0 => (m.b, l.b) | 1 => (m.n, l.n) | 2 => (m.e, l.e) | 3 => (m.d, l.d) | _ => (m.t, l.t)

theorem okTo_step {m l : Pl.Lim} {k : Nat} {x y : Int} (hk : k < 5) (h : okTo m l k) (hx : x = (pairL m l k).1) (hy : y = (pairL m l k).2) (hxy : x ≤ y) : Hid (okTo m l (k + 1)) := by
  unfold Hid okTo at *
  obtain rfl | rfl | rfl | rfl | rfl : k = 0 ∨ k = 1 ∨ k = 2 ∨ k = 3 ∨ k = 4 := by omega
  all_goals simp only [pairL] at hx hy; omega
theorem okTo_no {m l : Pl.Lim} {k : Nat} {x y : Int} (hk : k < 5) (hx : x = (pairL m l k).1) (hy : y = (pairL m l k).2) (hxy : y < x) : Pl.within m l = false := by
  unfold Pl.within
  obtain rfl | rfl | rfl | rfl | rfl : k = 0 ∨ k = 1 ∨ k = 2 ∨ k = 3 ∨ k = 4 := by omega
  all_goals simp only [pairL] at hx hy; exact decide_eq_false (by omega)
theorem okTo_all {m l : Pl.Lim} (h : okTo m l 5) : Pl.within m l = true := by
  unfold Pl.within okTo at *; exact decide_eq_true (by omega)

set_option maxHeartbeats 1000000 in
set_option maxRecDepth 100000 in
theorem lim_within (m l : Pl.Lim) (w : World) :
    Calls Tryd.prog 27 #[limV m, limV l] w fun en w' => en = .returned (.bool (Pl.within m l)) ∧ Below w.heap.size w w' := by
  have HE := Lib.hid (lim_each m l)
  simp only [limV]
  go_enter Tryd.func27, Tryd.ntmps27
  go_wp2_with fail
  refine (HE.out _).mono ?_
  rintro en w1 ⟨rfl, hb⟩
  have hB : Below w.heap.size w w1 := (((Below.refl _ _).alloc (Nat.le_refl _) _).alloc (by simp) _).trans (hb.mono (by simp; omega))
  clear HE hb
  obtain ⟨T, hT⟩ : ∃ T, T = eachC m l := ⟨_, rfl⟩
  rw [← hT]
  have hTi : ∀ k : Nat, k < 5 → ∀ w, (Instr.index 98 (.agg T) (.int .i64 k)).run Tryd.prog w = .ok (.agg #[.int .i64 (pairL m l k).1, .int .i64 (pairL m l k).2]) w := by
    intro k hk w
    rw [run_index_agg w 98 97 5 2 T .i64 k _ Tryd.underlying98 Tryd.underlying97 rfl rfl hk, hT]
    obtain rfl | rfl | rfl | rfl | rfl : k = 0 ∨ k = 1 ∨ k = 2 ∨ k = 3 ∨ k = 4 := by omega
    all_goals rfl
  clear hT
  go_wp2_with fail
  go_loopw [10] (fun i wr => ∃ k : Nat, k ≤ 5 ∧ i = .int .i64 k ∧ Hid (okTo m l k) ∧ Below w.heap.size w wr) (fun i _ => 5 - (intOf i).toNat)
  case atStart => exact ⟨0, by omega, rfl, by unfold Hid okTo; omega, hB⟩
  case round =>
    clear hB
    obtain ⟨k, hk, rfl, hO, hB⟩ := hrel
    by_cases hlt : k < 5
    · have hlb : decide ((k : Int) < 5) = true := decide_eq_true (by omega)
      have hI := hTi k hlt
      obtain ⟨x, hx⟩ : ∃ x, x = (pairL m l k).1 := ⟨_, rfl⟩
      obtain ⟨y, hy⟩ : ∃ y, y = (pairL m l k).2 := ⟨_, rfl⟩
      rw [← hx, ← hy] at hI
      have HX := Lib.hid hx
      have HY := Lib.hid hy
      clear hx hy hTi
      go_wp2_with fail
      focus
        have hf : Pl.within m l = false := okTo_no hlt HX.out HY.out (by assumption)
        go_ret
        exact ⟨ret_bool hf.symm, hB.alloc hB.size _⟩
      go_roundw
      case rel => exact ⟨k + 1, by omega, by go_num, okTo_step hlt hO.out HX.out HY.out (by assumption), hB.alloc hB.size _⟩
      case measure => simp [intOf]; omega
    · obtain rfl : k = 5 := by omega
      have hf : Pl.within m l = true := okTo_all hO.out
      go_wp2_with fail
      go_ret
      exact ⟨ret_bool hf.symm, hB⟩

set_option maxHeartbeats 1000000 in
set_option maxRecDepth 100000 in
theorem lim_right (l : Pl.Lim) (w : World) :
    Calls Tryd.prog 21 #[limV l] w fun en w' => en = .returned (.bool (Pl.right l)) ∧ Below w.heap.size w w' := by
  have H1 : Hid (∀ w, Calls Tryd.prog 27 #[limV l, .agg #[.int .i64 16777216, .int .i64 16777216, .int .i64 16777216, .int .i64 16777216, .int .i64 16777216]] w fun en w' => en = .returned (.bool (Pl.within l Pl.limAll)) ∧ Below w.heap.size w w') := fun w => lim_within l Pl.limAll w
  have H2 : Hid (∀ w, Calls Tryd.prog 27 #[.agg #[.int .i64 0, .int .i64 0, .int .i64 0, .int .i64 0, .int .i64 0], limV l] w fun en w' => en = .returned (.bool (Pl.within Pl.lim0 l)) ∧ Below w.heap.size w w') := fun w => lim_within Pl.lim0 l w
  simp only [limV] at *
  go_enter Tryd.func21, Tryd.ntmps21
  go_wp2_with fail
  have hn0 : w.heap.size < (w.alloc (.cells #[.int .i64 l.b, .int .i64 l.n, .int .i64 l.e, .int .i64 l.d, .int .i64 l.t] 26)).heap.size := by simp
  have h0 := heap_alloc_new w (.cells #[.int .i64 l.b, .int .i64 l.n, .int .i64 l.e, .int .i64 l.d, .int .i64 l.t] 26)
  have hB0 : Below w.heap.size w (w.alloc (.cells #[.int .i64 l.b, .int .i64 l.n, .int .i64 l.e, .int .i64 l.d, .int .i64 l.t] 26)) := (Below.refl _ _).alloc (Nat.le_refl _) _
  refine (H1.out _).mono ?_
  rintro en w1 ⟨rfl, hb⟩
  have hB := hB0.trans (hb.mono (by omega))
  have h1 : Hid (w1.heap[w.heap.size]? = _) := (hb.block _ hn0).trans h0
  clear hb hn0 h0 hB0 H1
  by_cases hr : Pl.within l Pl.limAll = true
  · rw [hr]
    obtain ⟨c0, c1, c2, c3, c4⟩ := cells5 h1.out
    have hv : Hid (Pl.right l = Pl.within Pl.lim0 l) := by unfold Hid Pl.right; rw [hr]; rfl
    go_wp2_with fail
    refine (H2.out _).mono ?_
    rintro en w2 ⟨rfl, hb2⟩
    go_wp2_with fail
    go_ret
    exact ⟨ret_bool hv.out.symm, hB.trans (hb2.mono hB.size)⟩
  · have hr' : Pl.within l Pl.limAll = false := by simpa using hr
    rw [hr']
    have hv : Hid (Pl.right l = false) := by unfold Hid Pl.right; rw [hr']; rfl
    clear hr H2
    go_wp2_with fail
    go_ret
    exact ⟨ret_bool hv.out.symm, hB⟩
end Go.Proofs.YtdejljgoebcmpaaDoor
namespace Go.Proofs
open Go.Shelf
def Tryd.lays169_ren : Go.Shelf.Ren := ⟨fun | 169 => 20 | n => n, fun | 70 => 52 | 9 => 9 | 0 => 0 | 72 => 55 | 37 => 53 | 127 => 78 | 3 => 3 | 5 => 5 | n => n, fun | n => n⟩
theorem Tryd.lays169 : Go.Proofs.Lays.n169 Tryd.prog Tryd.lays169_ren := {
  mixed := by kernel_rfl
  f169 := Tryd.func20.trans (congrArg some (by kernel_rfl))
  t0 := Tryd.underlying0
  a0 := Tryd.isAgg0
  z0 := Tryd.sizeOf0
  v0 := Tryd.zeroValue0
  t3 := Tryd.underlying3
  a3 := Tryd.isAgg3
  z3 := Tryd.sizeOf3
  v3 := Tryd.zeroValue3
  t9 := Tryd.underlying9
  a9 := Tryd.isAgg9
  z9 := Tryd.sizeOf9
  v9 := Tryd.zeroValue9
  t37 := Tryd.underlying53
  a37 := Tryd.isAgg53
  z37 := Tryd.sizeOf53
  v37 := Tryd.zeroValue53
  t70 := Tryd.underlying52
  a70 := Tryd.isAgg52
  z70 := Tryd.sizeOf52
  v70 := Tryd.zeroValue52
  t72 := Tryd.underlying55
  a72 := Tryd.isAgg55
  z72 := Tryd.sizeOf55
  v72 := Tryd.zeroValue55
  t127 := Tryd.underlying78
  a127 := Tryd.isAgg78
  z127 := Tryd.sizeOf78
  v127 := Tryd.zeroValue78 }
theorem Tryd.Builder_Extra_169 : Builder.Extra Tryd.prog Tryd.lays169_ren := {
  sizeBuilder := by kernel_rfl
  liesBuilder := by kernel_rfl
  t5 := Tryd.underlying5
  a5 := Tryd.isAgg5
  z5 := Tryd.sizeOf5
  v5 := Tryd.zeroValue5
  infoByte := by kernel_rfl
  cellsByte := by kernel_rfl
  sizeByte := by kernel_rfl
  neB5 := by decide }
open Go.RowKit in
theorem Tryd.Builder_String (B b : Nat) (l : List UInt8) (w : World) (h : Lib.IsBuilder 55 5 B b (Lib.byteCells l) w) (h0 : l ≠ []) :
    Calls Tryd.prog 20 #[.pointer (some ⟨b, 0, none⟩)] w fun e w' => e = .returned (.string ⟨l.toArray⟩) ∧ Below B w w' := Any.Builder_String Tryd.lays169 Tryd.Builder_Extra_169 B b l w h h0
open Go.RowKit in
theorem Tryd.Builder_String_empty (B b : Nat) (w : World) (h : Lib.IsBuilder 55 5 B b [] w) (hBw : B ≤ w.heap.size) :
    Calls Tryd.prog 20 #[.pointer (some ⟨b, 0, none⟩)] w fun e w' => e = .returned (.string ⟨#[]⟩) ∧ Below B w w' := Any.Builder_String_empty Tryd.lays169 Tryd.Builder_Extra_169 B b w h hBw
open Go.RowKit in
theorem Tryd.Builder_String_any (B b : Nat) (l : List UInt8) (w : World) (h : Lib.IsBuilder 55 5 B b (Lib.byteCells l) w) (hBw : B ≤ w.heap.size) :
    Calls Tryd.prog 20 #[.pointer (some ⟨b, 0, none⟩)] w fun e w' => e = .returned (.string ⟨l.toArray⟩) ∧ Below B w w' := Any.Builder_String_any Tryd.lays169 Tryd.Builder_Extra_169 B b l w h hBw
open Go.RowKit in
theorem Tryd.Builder_String_f (B b : Nat) (l : List UInt8) (w : World) (h : Lib.IsBuilderF 55 5 B b (Lib.byteCells l) w) (h0 : l ≠ []) :
    Calls Tryd.prog 20 #[.pointer (some ⟨b, 0, none⟩)] w fun e w' => e = .returned (.string ⟨l.toArray⟩) ∧ (Lib.IsBuilderF 55 5 B b (Lib.byteCells l) w' ∧ Below B w w') := Any.Builder_String_f Tryd.lays169 Tryd.Builder_Extra_169 B b l w h h0
open Go.RowKit in
theorem Tryd.Builder_String_empty_f (B b : Nat) (w : World) (h : Lib.IsBuilderF 55 5 B b [] w) (hBw : B ≤ w.heap.size) :
    Calls Tryd.prog 20 #[.pointer (some ⟨b, 0, none⟩)] w fun e w' => e = .returned (.string ⟨#[]⟩) ∧ (Lib.IsBuilderF 55 5 B b [] w' ∧ Below B w w') := Any.Builder_String_empty_f Tryd.lays169 Tryd.Builder_Extra_169 B b w h hBw
open Go.RowKit in
theorem Tryd.Builder_String_any_f (B b : Nat) (l : List UInt8) (w : World) (h : Lib.IsBuilderF 55 5 B b (Lib.byteCells l) w) (hBw : B ≤ w.heap.size) :
    Calls Tryd.prog 20 #[.pointer (some ⟨b, 0, none⟩)] w fun e w' => e = .returned (.string ⟨l.toArray⟩) ∧ (Lib.IsBuilderF 55 5 B b (Lib.byteCells l) w' ∧ Below B w w') := Any.Builder_String_any_f Tryd.lays169 Tryd.Builder_Extra_169 B b l w h hBw
open Go.RowKit in
theorem Tryd.Builder_String_k (B b : Nat) (l : List UInt8) (w : World) (h : Lib.IsBuilderF 55 5 B b (Lib.byteCells l) w) (h0 : l ≠ []) :
    Calls Tryd.prog 20 #[.pointer (some ⟨b, 0, none⟩)] w fun e w' => e = .returned (.string ⟨l.toArray⟩) ∧ (Lib.IsBuilderF 55 5 B b (Lib.byteCells l) w' ∧ Below B w w' ∧ Lib.OthersKept 5 (some b) w w') := Any.Builder_String_k Tryd.lays169 Tryd.Builder_Extra_169 B b l w h h0
open Go.RowKit in
theorem Tryd.Builder_String_empty_k (B b : Nat) (w : World) (h : Lib.IsBuilderF 55 5 B b [] w) (hBw : B ≤ w.heap.size) :
    Calls Tryd.prog 20 #[.pointer (some ⟨b, 0, none⟩)] w fun e w' => e = .returned (.string ⟨#[]⟩) ∧ (Lib.IsBuilderF 55 5 B b [] w' ∧ Below B w w' ∧ Lib.OthersKept 5 (some b) w w') := Any.Builder_String_empty_k Tryd.lays169 Tryd.Builder_Extra_169 B b w h hBw
open Go.RowKit in
theorem Tryd.Builder_String_any_k (B b : Nat) (l : List UInt8) (w : World) (h : Lib.IsBuilderF 55 5 B b (Lib.byteCells l) w) (hBw : B ≤ w.heap.size) :
    Calls Tryd.prog 20 #[.pointer (some ⟨b, 0, none⟩)] w fun e w' => e = .returned (.string ⟨l.toArray⟩) ∧ (Lib.IsBuilderF 55 5 B b (Lib.byteCells l) w' ∧ Below B w w' ∧ Lib.OthersKept 5 (some b) w w') := Any.Builder_String_any_k Tryd.lays169 Tryd.Builder_Extra_169 B b l w h hBw
def Tryd.lays197_ren : Go.Shelf.Ren := ⟨fun | 197 => 86 | 260 => 88 | n => n, fun | 9 => 9 | 21 => 21 | 3 => 3 | 4 => 4 | 5 => 5 | 105 => 145 | 119 => 153 | 0 => 0 | 46 => 75 | 139 => 156 | 138 => 155 | n => n, fun | 3 => 0 | 4 => 1 | n => n⟩
theorem Tryd.lays197 : Go.Proofs.Lays.n197 Tryd.prog Tryd.lays197_ren := {
  mixed := by kernel_rfl
  f197 := Tryd.func86.trans (congrArg some (by kernel_rfl))
  f260 := Tryd.func88.trans (congrArg some (by kernel_rfl))
  t0 := Tryd.underlying0
  a0 := Tryd.isAgg0
  z0 := Tryd.sizeOf0
  v0 := Tryd.zeroValue0
  t3 := Tryd.underlying3
  a3 := Tryd.isAgg3
  z3 := Tryd.sizeOf3
  v3 := Tryd.zeroValue3
  t4 := Tryd.underlying4
  a4 := Tryd.isAgg4
  z4 := Tryd.sizeOf4
  v4 := Tryd.zeroValue4
  t5 := Tryd.underlying5
  a5 := Tryd.isAgg5
  z5 := Tryd.sizeOf5
  v5 := Tryd.zeroValue5
  t9 := Tryd.underlying9
  a9 := Tryd.isAgg9
  z9 := Tryd.sizeOf9
  v9 := Tryd.zeroValue9
  t21 := Tryd.underlying21
  a21 := Tryd.isAgg21
  z21 := Tryd.sizeOf21
  v21 := Tryd.zeroValue21
  t46 := Tryd.underlying75
  a46 := Tryd.isAgg75
  z46 := Tryd.sizeOf75
  v46 := Tryd.zeroValue75
  t105 := Tryd.underlying145
  a105 := Tryd.isAgg145
  z105 := Tryd.sizeOf145
  v105 := Tryd.zeroValue145
  t119 := Tryd.underlying153
  a119 := Tryd.isAgg153
  z119 := Tryd.sizeOf153
  t138 := Tryd.underlying155
  a138 := Tryd.isAgg155
  z138 := Tryd.sizeOf155
  v138 := Tryd.zeroValue155
  t139 := Tryd.underlying156
  a139 := Tryd.isAgg156
  z139 := Tryd.sizeOf156
  v139 := Tryd.zeroValue156
  g3 := by kernel_rfl
  g4 := by kernel_rfl }
open Go.RowKit Go.Lib in
theorem Tryd.utf8_DecodeRuneInString_ascii (s : ByteArray) (x : UInt8) (w : World) (h0 : s.data.toList[0]? = some x) (hx : x.toNat < 128) :
    Calls Tryd.prog 86 #[.string s] w fun e w' => e = .returned (.tuple #[.int .i32 x.toNat, .int .i64 1]) ∧ w' = w := Any.utf8_DecodeRuneInString_ascii Tryd.lays197 s x w h0 hx
def Tryd.lays264_ren : Go.Shelf.Ren := ⟨fun | 264 => 90 | n => n, fun | 53 => 61 | 46 => 75 | n => n, fun | n => n⟩
theorem Tryd.lays264 : Go.Proofs.Lays.n264 Tryd.prog Tryd.lays264_ren := {
  mixed := by kernel_rfl
  f264 := Tryd.func90.trans (congrArg some (by kernel_rfl))
  t46 := Tryd.underlying75
  a46 := Tryd.isAgg75
  z46 := Tryd.sizeOf75
  v46 := Tryd.zeroValue75
  t53 := Tryd.underlying61
  a53 := Tryd.isAgg61
  z53 := Tryd.sizeOf61
  v53 := Tryd.zeroValue61 }
open Go.RowKit Go.Lib in
theorem Tryd.bits_Mul64 (x y : Nat) (hx : x < 18446744073709551616) (hy : y < 18446744073709551616) (w : World) :
    Calls Tryd.prog 90 #[.int .u64 x, .int .u64 y] w fun e w' => e = .returned (.tuple #[.int .u64 ((x * y / 18446744073709551616 : Nat) : Int), .int .u64 ((x * y % 18446744073709551616 : Nat) : Int)]) ∧ w' = w := Any.bits_Mul64 Tryd.lays264 x y hx hy w
def Tryd.lays212_ren : Go.Shelf.Ren := ⟨fun | 212 => 87 | 263 => 89 | 264 => 90 | n => n, fun | 46 => 75 | 51 => 73 | 146 => 149 | 53 => 61 | 148 => 151 | n => n, fun | n => n⟩
theorem Tryd.lays212 : Go.Proofs.Lays.n212 Tryd.prog Tryd.lays212_ren := {
  mixed := by kernel_rfl
  f212 := Tryd.func87.trans (congrArg some (by kernel_rfl))
  f263 := Tryd.func89.trans (congrArg some (by kernel_rfl))
  f264 := Tryd.func90.trans (congrArg some (by kernel_rfl))
  t46 := Tryd.underlying75
  a46 := Tryd.isAgg75
  z46 := Tryd.sizeOf75
  v46 := Tryd.zeroValue75
  t51 := Tryd.underlying73
  a51 := Tryd.isAgg73
  z51 := Tryd.sizeOf73
  v51 := Tryd.zeroValue73
  t53 := Tryd.underlying61
  a53 := Tryd.isAgg61
  z53 := Tryd.sizeOf61
  v53 := Tryd.zeroValue61
  t146 := Tryd.underlying149
  a146 := Tryd.isAgg149
  z146 := Tryd.sizeOf149
  v146 := Tryd.zeroValue149
  t148 := Tryd.underlying151
  a148 := Tryd.isAgg151
  z148 := Tryd.sizeOf151
  v148 := Tryd.zeroValue151 }
open Go.RowKit Go.Lib in
theorem Tryd.bits_Mul (x y : Nat) (hx : x < 18446744073709551616) (hy : y < 18446744073709551616) (w : World) :
    Calls Tryd.prog 87 #[.int .u64 x, .int .u64 y] w fun e w' => e = .returned (.tuple #[.int .u64 ((x * y / 18446744073709551616 : Nat) : Int), .int .u64 ((x * y % 18446744073709551616 : Nat) : Int)]) ∧ w' = w := Any.bits_Mul Tryd.lays212 x y hx hy w
def Tryd.lays260_ren : Go.Shelf.Ren := ⟨fun | 260 => 88 | n => n, fun | 9 => 9 | 21 => 21 | 3 => 3 | 4 => 4 | 5 => 5 | 119 => 153 | 0 => 0 | 46 => 75 | 139 => 156 | 138 => 155 | n => n, fun | 3 => 0 | 4 => 1 | n => n⟩
theorem Tryd.lays260 : Go.Proofs.Lays.n260 Tryd.prog Tryd.lays260_ren := {
  mixed := by kernel_rfl
  f260 := Tryd.func88.trans (congrArg some (by kernel_rfl))
  t0 := Tryd.underlying0
  a0 := Tryd.isAgg0
  z0 := Tryd.sizeOf0
  v0 := Tryd.zeroValue0
  t3 := Tryd.underlying3
  a3 := Tryd.isAgg3
  z3 := Tryd.sizeOf3
  v3 := Tryd.zeroValue3
  t4 := Tryd.underlying4
  a4 := Tryd.isAgg4
  z4 := Tryd.sizeOf4
  v4 := Tryd.zeroValue4
  t5 := Tryd.underlying5
  a5 := Tryd.isAgg5
  z5 := Tryd.sizeOf5
  v5 := Tryd.zeroValue5
  t9 := Tryd.underlying9
  a9 := Tryd.isAgg9
  z9 := Tryd.sizeOf9
  v9 := Tryd.zeroValue9
  t21 := Tryd.underlying21
  a21 := Tryd.isAgg21
  z21 := Tryd.sizeOf21
  v21 := Tryd.zeroValue21
  t46 := Tryd.underlying75
  a46 := Tryd.isAgg75
  z46 := Tryd.sizeOf75
  v46 := Tryd.zeroValue75
  t119 := Tryd.underlying153
  a119 := Tryd.isAgg153
  z119 := Tryd.sizeOf153
  t138 := Tryd.underlying155
  a138 := Tryd.isAgg155
  z138 := Tryd.sizeOf155
  v138 := Tryd.zeroValue155
  t139 := Tryd.underlying156
  a139 := Tryd.isAgg156
  z139 := Tryd.sizeOf156
  v139 := Tryd.zeroValue156
  g3 := by kernel_rfl
  g4 := by kernel_rfl }
open Go.RowKit Go.Lib in
theorem Tryd.utf8_decodeRuneInStringSlow (s : ByteArray) (w : World) (hT : Lib.Utf8Tabs 0 1 w) :
    Calls Tryd.prog 88 #[.string s] w fun e w' => e = .returned (.tuple #[.int .i32 (Lib.decodeGo s).1, .int .i64 (Lib.decodeGo s).2]) ∧ Below w.heap.size w w' := Any.utf8_decodeRuneInStringSlow Tryd.lays260 s w hT
open Go.RowKit Go.Lib in
theorem Tryd.utf8_DecodeRuneInString (s : ByteArray) (w : World) (hT : Lib.Utf8Tabs 0 1 w) :
    Calls Tryd.prog 86 #[.string s] w fun e w' => e = .returned (.tuple #[.int .i32 (Lib.decodeGo s).1, .int .i64 (Lib.decodeGo s).2]) ∧ Below w.heap.size w w' := Any.utf8_DecodeRuneInString Tryd.lays197 s w hT
def Tryd.laysNm215_ren : Go.Shelf.Ren := ⟨fun | 15 => 52 | n => n, fun | 22 => 41 | 3 => 3 | 4 => 4 | n => n, fun | n => n⟩
theorem Tryd.laysNm215 : Go.Proofs.Lays2.n15 Tryd.prog Tryd.laysNm215_ren := {
  mixed := by kernel_rfl
  f15 := Tryd.func52.trans (congrArg some (by kernel_rfl))
  t3 := Tryd.underlying3
  a3 := Tryd.isAgg3
  z3 := Tryd.sizeOf3
  v3 := Tryd.zeroValue3
  t4 := Tryd.underlying4
  a4 := Tryd.isAgg4
  z4 := Tryd.sizeOf4
  v4 := Tryd.zeroValue4
  t22 := Tryd.underlying41
  a22 := Tryd.isAgg41
  z22 := Tryd.sizeOf41
  v22 := Tryd.zeroValue41
  i3 := by kernel_rfl }
open Go.RowKit Go.Lib in
theorem Tryd.slices_Clone_int (b off n c : Nat) (zs : List Int) (w : World) (hz : n ≤ zs.length) (hbig : n * 8 ≤ 140737488355328) (hc : ∀ j, j < zs.length → w.cell? ⟨b, off + j, none⟩ = some (.int .i64 (zs.getD j 0))) :
    Calls Tryd.prog 52 #[.slice (some ⟨b, off, none⟩) n c] w fun e w' => ∃ v', e = .returned v' ∧ w'.ownsRow w.heap.size 3 1 v' n ((zs.take n).map (Value.int .i64)) ∧ v' ≠ .slice none 0 0 ∧ Below w.heap.size w w' := Any.slices_Clone_int Tryd.laysNm215 b off n c zs w hz hbig hc
open Go.RowKit Go.Lib in
theorem Tryd.slices_Clone_int_nil (n c : Nat) (w : World) :
    Calls Tryd.prog 52 #[.slice none n c] w fun e w' => e = .returned (.slice none 0 0) ∧ w' = w := Any.slices_Clone_int_nil Tryd.laysNm215 n c w
open Go.RowKit Go.Lib in
theorem Tryd.slices_Clone_int_zero (a : Addr) (c : Nat) (w : World) :
    Calls Tryd.prog 52 #[.slice (some a) 0 c] w fun e w' => ∃ v', e = .returned v' ∧ w'.ownsRow w.heap.size 3 1 v' 0 [] ∧ v' ≠ .slice none 0 0 ∧ Below w.heap.size w w' := Any.slices_Clone_int_zero Tryd.laysNm215 a c w
end Go.Proofs
/- schema.In, find, ints, Old. -/
namespace Go.Proofs.YtdejljgoebcmpaaDoor
open Go.RowKit

namespace Pl
def inC (c n : Int) : Bool :=
  if c = 1 then true else if c = 2 then decide (-140737488355328 ≤ n ∧ n ≤ 140737488355328) else if c = 3 then decide (0 ≤ n ∧ n ≤ 140737488355328)
  else if c = 4 then decide (0 ≤ n ∧ n ≤ 255) else if c = 5 then decide (n = 0 ∨ n = 1) else false
end Pl

set_option maxHeartbeats 1000000 in
set_option maxRecDepth 100000 in
theorem sch_in (c n : Int) (w : World) :
    Calls Tryd.prog 64 #[.int .i64 c, .int .i64 n] w fun en w' => en = .returned (.bool (Pl.inC c n)) ∧ w = w' := by
  obtain ⟨r, hr⟩ : ∃ r, r = Pl.inC c n := ⟨_, rfl⟩
  have HR := Lib.hid hr
  rw [← hr]
  clear hr
  go_enter Tryd.func64, Tryd.ntmps64
  go_wp2
  all_goals
    go_ret
    refine ⟨ret_bool ?_, rfl⟩
    rw [HR.out]
    clear HR
    unfold Pl.inC
    simp only [beq_iff_eq, beq_eq_false_iff_ne] at *
    simp_all
  all_goals first | (rw [Bool.eq_iff_iff]; simp; omega) | (intros; omega)

theorem cell_row {w : World} {k : Nat} {cs : Array Value} {t : TypeId} {fr : Nat × Nat} (h : w.heap[k]? = some (.cells cs t fr)) (i : Nat) : w.cell? ⟨k, i, none⟩ = cs[i]? := by
  unfold World.cell?; rw [h]; rfl
/-- The first j of n are c, the others 0. -/
def repC (c : Int) (n j : Nat) : List Value := List.replicate j (.int .i64 c) ++ List.replicate (n - j) (.int .i64 0)
theorem repC_splice (c : Int) (n j m : Nat) (hj : j + m ≤ n) : splice (repC c n j) j (List.replicate m (.int .i64 c)) = repC c n (j + m) := by
  unfold splice repC
  have h1 : (List.replicate j (Value.int .i64 c) ++ List.replicate (n - j) (Value.int .i64 0)).drop (j + m) = List.replicate (n - (j + m)) (.int .i64 0) := by
    rw [← List.drop_drop, List.drop_left' (by simp), List.drop_replicate]; congr 1; omega
  rw [List.length_replicate, h1, List.take_left' (by simp), ← List.append_assoc, List.replicate_append_replicate]

set_option maxHeartbeats 1000000 in
set_option maxRecDepth 100000 in
theorem sch_repeat (g n : Nat) (c : Int) (w : World) (hg : w.cell? ⟨g, 0, none⟩ = some (.int .i64 c)) (hn : 1 ≤ n) (hn2 : n ≤ 1000) :
    Calls Tryd.prog 82 #[.slice (some ⟨g, 0, none⟩) 1 1, .int .i64 n] w fun en w' => (∃ k, w.heap.size ≤ k ∧ en = .returned (.slice (some ⟨k, 0, none⟩) n n) ∧ w'.heap[k]? = some (.cells (List.replicate n (.int .i64 c)).toArray 3 (0, 0))) ∧ Below w.heap.size w w' := by
  have hglt := World.block_lt_of_cell? w _ hg
  have hn3 : decide ((n : Int) < 0) = false := decide_eq_false (by omega)
  have hn4 : decide (n < 0) = false := by simp
  go_enter Tryd.func82, Tryd.ntmps82
  go_wp2_with fail
  have HM : Hid (∀ w, Calls Tryd.prog 87 #[.int .u64 1, .int .u64 n] w fun e w' => e = .returned (.tuple #[.int .u64 0, .int .u64 n]) ∧ w' = w) := fun w => by
    have := Tryd.bits_Mul 1 n (by omega) (by omega) w
    rw [show 1 * n / 18446744073709551616 = 0 from by omega, show 1 * n % 18446744073709551616 = n from by omega] at this; exact this
  refine (HM.out _).mono ?_
  rintro en w1 ⟨rfl, rfl⟩
  clear HM
  have hm1 : decide ((9223372036854775807 : Int) < n) = false := decide_eq_false (by omega)
  have hm2 : decide (9223372036854775807 < n) = false := decide_eq_false (by omega)
  have hm3 : decide ((0 : Int) < 0) = false := rfl
  have hmk : ∀ w : World, (Instr.makeSlice 41 (.int .i64 n) (.int .i64 n)).run Tryd.prog w = .ok (.slice (some ⟨w.heap.size, 0, none⟩) n n) (w.alloc (.cells (List.replicate n (.int .i64 0)).toArray 3)) := by
    intro w
    have := run_make_row' (P := Tryd.prog) 41 3 (.int .i64 0) 8 Tryd.underlying41 rfl rfl .i64 .i64 n (by omega) (by omega) w
    rw [show madeCells #[.int .i64 0] n = (List.replicate n (.int .i64 0)).toArray from ?_] at this
    · exact this
    · apply Array.ext
      · simp [madeCells]
      · intro i h1 h2; simp [madeCells, Nat.mod_one]
  have hh0 : Hid ((w1.alloc (.cells (List.replicate n (.int .i64 0)).toArray 3)).heap[w1.heap.size]? = some (.cells (repC c n 0).toArray 3 (0, 0))) := by
    unfold Hid; rw [heap_alloc_new]; simp [repC]
  have hB0 : Below w1.heap.size w1 (w1.alloc (.cells (List.replicate n (.int .i64 0)).toArray 3)) := (Below.refl _ _).alloc (Nat.le_refl _) _
  obtain ⟨A0, hA0⟩ : ∃ A, A = w1.alloc (.cells (List.replicate n (.int .i64 0)).toArray 3) := ⟨_, rfl⟩
  rw [← hA0] at hh0 hB0
  have hmk' := fun w => (hmk w)
  have hmk1 := hmk w1
  rw [← hA0] at hmk1
  clear hmk hmk' hA0
  have hgA : A0.cell? ⟨g, 0, none⟩ = some (.int .i64 c) := (hB0.cell (p := ⟨g, 0, none⟩) hglt).trans hg
  have k0 : (Tryd.prog.info? 3).map (·.size) = some 1 := rfl
  have k1 : [Value.int .i64 c].length = Nat.min 1 n := (Nat.min_eq_left hn).symm
  have K2 : Hid (∀ j v, [Value.int .i64 c][j]? = some v → A0.cell? ((⟨g, 0, none⟩ : Addr).add j) = some v) := by
    intro j v hj
    rcases j with _ | j
    · simp at hj; subst hj; simpa [Addr.add] using hgA
    · simp at hj
  have k3 : 0 + [Value.int .i64 c].length ≤ (repC c n 0).length := by simp [repC]; omega
  have k4 : ∀ v ∈ [Value.int .i64 c], v.oneCell' = true := by simp [Value.oneCell']
  have K1 := Lib.hid k1
  have K3 := Lib.hid k3
  have K4 := Lib.hid k4
  clear k1 k3 k4
  go_wp2_with (refine wpList_copy_splice rfl (.tmp 31) (.tmp 32) 41 41 rfl 3 Tryd.underlying41 k0 _ _ _ _ _ _ rfl rfl w1.heap.size 0 (repC c n 0) 3 hh0.out [.int .i64 c] K1.out (fun _ => ⟨rfl, _, rfl, K2.out⟩) K3.out K4.out w1.heap.size w1 hB0 (Nat.le_refl _) ?_; intro w2 hh1 hB1)
  have hh2 : Hid (w2.heap[w1.heap.size]? = some (.cells (repC c n 1).toArray 3 (0, 0))) := by
    have := hh1.out; rw [show [Value.int .i64 c] = List.replicate 1 (.int .i64 c) from rfl, repC_splice c n 0 1 (by omega)] at this; exact this
  clear hh1 K1 K2 K3 K4 hgA hh0 hB0 hmk1 k0
  go_loopw [8] (fun i wr => ∃ j : Nat, 1 ≤ j ∧ j ≤ n ∧ i = .int .i64 j ∧ Hid (wr.heap[w1.heap.size]? = some (.cells (repC c n j).toArray 3 (0, 0))) ∧ Below w1.heap.size w1 wr) (fun i _ => n - (intOf i).toNat)
  case atStart => exact ⟨1, by omega, hn, rfl, hh2, hB1⟩
  case round =>
    clear hh2 hB1
    obtain ⟨j, hj1, hj2, rfl, hh, hB⟩ := hrel
    by_cases hlt : j < n
    · have hlb : decide ((j : Int) < n) = true := decide_eq_true (by omega)
      have hlb2 : decide (j < n) = true := decide_eq_true (by omega)
      go_wp2_with fail
      have k0 : (Tryd.prog.info? 3).map (·.size) = some 1 := rfl
      have K1 : Hid ((List.replicate (Nat.min j (n - j)) (Value.int .i64 c)).length = Nat.min j (n - j)) := by unfold Hid; simp
      have K2 : Hid (∀ i v, (List.replicate (Nat.min j (n - j)) (Value.int .i64 c))[i]? = some v → wr.cell? ((⟨w1.heap.size, 0, none⟩ : Addr).add i) = some v) := by
        intro i v hi
        rw [List.getElem?_replicate] at hi
        split at hi
        · rename_i him
          have hij : i < j := Nat.lt_of_lt_of_le him (Nat.min_le_left _ _)
          rw [show (⟨w1.heap.size, 0, none⟩ : Addr).add i = ⟨w1.heap.size, i, none⟩ from by unfold Addr.add; split <;> simp_all]
          rw [cell_row hh.out, ← hi]
          rw [List.getElem?_toArray]; unfold repC; rw [List.getElem?_append_left (by simpa using hij), List.getElem?_replicate, if_pos hij]
        · cases hi
      have K3 : Hid (j + (List.replicate (Nat.min j (n - j)) (Value.int .i64 c)).length ≤ (repC c n j).length) := by
        have : Nat.min j (n - j) ≤ n - j := Nat.min_le_right _ _
        unfold Hid; simp [repC]; omega
      have K4 : Hid (∀ v ∈ List.replicate (Nat.min j (n - j)) (Value.int .i64 c), v.oneCell' = true) := by
        intro v hv; rw [List.eq_of_mem_replicate hv]; rfl
      have hnj : (n = j) = False := eq_false (by omega)
      have HBd : Hid (Below w1.heap.size w1 wr.drew) := hB.trans ⟨rfl, rfl, rfl, Nat.le_refl _, fun _ _ => rfl⟩
      have HHd : Hid (wr.drew.heap[w1.heap.size]? = some (.cells (repC c n j).toArray 3 (0, 0))) := hh
      have K2d : Hid (∀ i v, (List.replicate (Nat.min j (n - j)) (Value.int .i64 c))[i]? = some v → wr.drew.cell? ((⟨w1.heap.size, 0, none⟩ : Addr).add i) = some v) := K2
      go_region_law (refine step_copy_splice rfl (.tmp 41) (.tmp 44) 41 41 rfl 3 Tryd.underlying41 k0 (some ⟨w1.heap.size, j, none⟩) (some ⟨w1.heap.size, 0, none⟩) (n - j) (n - j) j n ?hd ?hs w1.heap.size j (repC c n j) 3 HHd.out (List.replicate (Nat.min j (n - j)) (.int .i64 c)) K1.out (fun _ => ⟨rfl, _, rfl, K2d.out⟩) K3.out K4.out w1.heap.size w1 HBd.out (Nat.le_refl _) ?_; (case hd => simp [Act.eval, Act.put, hnj]); (case hs => simp [Act.eval, Act.put]); intro w4 hh4 hB4)
      have hh5 : Hid (w4.heap[w1.heap.size]? = some (.cells (repC c n (j + Nat.min j (n - j))).toArray 3 (0, 0))) := by
        have := hh4.out; rw [repC_splice c n j _ (by have : Nat.min j (n - j) ≤ n - j := Nat.min_le_right _ _; omega)] at this; exact this
      have hm1 : 1 ≤ Nat.min j (n - j) := Nat.le_min.2 ⟨hj1, by omega⟩
      have hm2 : Nat.min j (n - j) ≤ n - j := Nat.min_le_right _ _
      have hm3 : Nat.min j (n - j) ≤ j := Nat.min_le_left _ _
      have hml : (List.replicate (Nat.min j (n - j)) (Value.int .i64 c)).length = Nat.min j (n - j) := by simp
      clear hh4 K1 K2 K3 K4 K2d HHd HBd
      generalize Nat.min j (n - j) = m at *
      have hwr : IntKind.i64.wrap ((j : Int) + m) = (j : Int) + m := by rw [IntKind.wrap_i64]; omega
      go_simp
      go_wp2_with fail
      go_roundw
      case rel => exact ⟨j + m, by omega, by omega, by go_num, hh5, hB4⟩
      case measure => simp only [intOf]; omega
    · obtain rfl : j = n := by omega
      have hlb : decide ((j : Int) < j) = false := decide_eq_false (by omega)
      go_wp2_with fail
      go_ret
      exact ⟨⟨w1.heap.size, Nat.le_refl _, rfl, by have := hh.out; simpa [repC] using this⟩, hB⟩

set_option maxRecDepth 100000 in
theorem sch_ints (n : Nat) (c : Int) (w : World) (hn : 1 ≤ n) (hn2 : n ≤ 1000) :
    Calls Tryd.prog 69 #[.int .i64 n, .int .i64 c] w fun en w' => (∃ k, w.heap.size ≤ k ∧ en = .returned (.slice (some ⟨k, 0, none⟩) n n) ∧ w'.heap[k]? = some (.cells (List.replicate n (.int .i64 c)).toArray 3 (0, 0))) ∧ Below w.heap.size w w' := by
  go_enter Tryd.func69, Tryd.ntmps69
  go_wp2_with fail
  refine (sch_repeat w.heap.size n c _ (by rw [cell_row (heap_alloc_new w _)]; rfl) hn hn2).mono ?_
  rintro en w1 ⟨⟨k, hk, rfl, hrow⟩, hb⟩
  have hB : Below w.heap.size w w1 := ((Below.refl _ _).alloc (Nat.le_refl _) _).trans (hb.mono (by simp))
  have HR := Lib.hid hrow
  clear hb hrow
  simp at hk
  go_wp2_with fail
  go_ret
  exact ⟨⟨k, by omega, rfl, HR.out⟩, hB⟩
end Go.Proofs.YtdejljgoebcmpaaDoor
/- schema.find, Old. -/
namespace Go.Proofs.YtdejljgoebcmpaaDoor
open Go.RowKit

namespace Pl
structure Spec where
  ints : List Int
  texts : Nat
  least : Nat
  most : Int
def noSpec : Spec := ⟨[], 0, 0, 0⟩
def oldSpec (k : Int) : Option Spec :=
  if k = 1 then some ⟨[], 0, 0, -1⟩ else if k = 2 then some ⟨[2, 2, 2, 2], 0, 1, 1⟩ else if k = 3 then some ⟨[3], 1, 0, 0⟩ else if k = 4 then some ⟨[3], 1, 0, 0⟩
  else if k = 5 then some ⟨[], 1, 0, 0⟩ else if k = 6 then some ⟨[4], 0, 0, 0⟩ else none
end Pl
/-- A row of numbers that is read. -/
def RNums (w : World) (v : Value) (l : List Int) : Prop := ∃ A c, v = .slice A l.length c ∧ (0 < l.length → ∃ ad, A = some ad ∧ ∀ j (h : j < l.length), w.cell? (ad.add j) = some (.int .i64 l[j]))
theorem RNums.below {w w' : World} {v : Value} {l : List Int} (h : RNums w v l) (hb : Below w.heap.size w w') : RNums w' v l := by
  obtain ⟨A, c, rfl, h⟩ := h
  refine ⟨A, c, rfl, fun hl => ?_⟩
  obtain ⟨ad, e, hc⟩ := h hl
  exact ⟨ad, e, fun j hj => (hb.cell (World.block_lt_of_cell? w _ (hc j hj))).trans (hc j hj)⟩
theorem RNums.nil (w : World) : RNums w (.slice none 0 0) [] := ⟨none, 0, rfl, fun h => by simp at h⟩
theorem RNums.rep {w : World} {k n : Nat} {c : Int} {t : TypeId} {fr : Nat × Nat} (h : w.heap[k]? = some (.cells (List.replicate n (.int .i64 c)).toArray t fr)) : RNums w (.slice (some ⟨k, 0, none⟩) n n) (List.replicate n c) := by
  refine ⟨_, n, by rw [List.length_replicate], fun _ => ⟨_, rfl, fun j hj => ?_⟩⟩
  rw [show (⟨k, 0, none⟩ : Addr).add j = ⟨k, j, none⟩ from by unfold Addr.add; split <;> simp_all, cell_row h]
  simp at hj
  simp [hj]

/-- A row of texts that is read. -/
def RStrs (w : World) (v : Value) (l : List ByteArray) : Prop := ∃ A c, v = .slice A l.length c ∧ (0 < l.length → ∃ ad, A = some ad ∧ ∀ j (h : j < l.length), w.cell? (ad.add j) = some (.string l[j]))
theorem RStrs.below {w w' : World} {v : Value} {l : List ByteArray} (h : RStrs w v l) (hb : Below w.heap.size w w') : RStrs w' v l := by
  obtain ⟨A, c, rfl, h⟩ := h
  refine ⟨A, c, rfl, fun hl => ?_⟩
  obtain ⟨ad, e, hc⟩ := h hl
  exact ⟨ad, e, fun j hj => (hb.cell (World.block_lt_of_cell? w _ (hc j hj))).trans (hc j hj)⟩

/-- The result that lies in a cell's row, and one in a slot. -/
theorem results_row_tmp {P : Program} {fn : Func} {p q : Tmp} {ty : TypeId} (h : fn.results = #[.cell p ty, .tmp q]) (tmps : Array Value) (w : World) (g : Nat) (t : TypeId) (cs : Array Value) (fr : Nat × Nat) (d : TypeDesc)
    (hp : tmps.getD p undef = .pointer (some ⟨g, 0, none⟩)) (hg : w.heap[g]? = some (.cells cs t fr))
    (hu : P.underlying ty = some d) (hd : (match d with | .struct _ | .array _ _ => true | _ => false) = true) (hi : (P.info? ty).map (·.size) = some cs.size) (u : Value) (hq : tmps.getD q undef = u) :
    (results fn tmps).run P w = .ok (.tuple #[.agg cs, u]) w := by
  have hp' : tmps[p]?.getD undef = .pointer (some ⟨g, 0, none⟩) := by simpa using hp
  have hq' : tmps[q]?.getD undef = u := by simpa using hq
  simp [results, h, hp', hq', asAddr, run_loadVar_row w g t ty cs fr d hg hu hd hi]

set_option maxRecDepth 100000 in
theorem spec_size (a b c d : Value) : (Tryd.prog.info? 115).map (·.size) = some (#[a, b, c, d]).size := rfl

set_option maxHeartbeats 1000000 in
set_option maxRecDepth 100000 in
theorem sch_find (k m i : Nat) (A : Option Addr) (n n' : Nat) (x y z : Int) (w : World) (hi : 1 ≤ i) (him : i < m) (h0 : w.cell? ⟨k, i * 4, none⟩ = some (.slice A n n')) (h1 : w.cell? ⟨k, i * 4 + 1, none⟩ = some (.int .i64 x))
    (h2 : w.cell? ⟨k, i * 4 + 2, none⟩ = some (.int .i64 y)) (h3 : w.cell? ⟨k, i * 4 + 3, none⟩ = some (.int .i64 z)) :
    Calls Tryd.prog 68 #[.slice (some ⟨k, 0, none⟩) m m, .int .i64 i] w fun en w' => en = .returned (.tuple #[.agg #[.slice A n n', .int .i64 x, .int .i64 y, .int .i64 z], .bool true]) ∧ Below w.heap.size w w' := by
  have t1 : decide ((i : Int) < 1) = false := decide_eq_false (by omega)
  have t2 : decide (i < 1) = false := decide_eq_false (by omega)
  have t3 : decide ((m : Int) ≤ i) = false := decide_eq_false (by omega)
  have t4 : decide (m ≤ i) = false := decide_eq_false (by omega)
  have hkl := World.block_lt_of_cell? w _ h0
  have hB : Below w.heap.size w (w.alloc (.cells #[.slice none 0 0, .int .i64 0, .int .i64 0, .int .i64 0] 115)) := (Below.refl _ _).alloc (Nat.le_refl _) _
  have e0 := (hB.cell (p := ⟨k, i * 4, none⟩) hkl).trans h0
  have e1 := (hB.cell (p := ⟨k, i * 4 + 1, none⟩) hkl).trans h1
  have e2 := (hB.cell (p := ⟨k, i * 4 + 2, none⟩) hkl).trans h2
  have e3 := (hB.cell (p := ⟨k, i * 4 + 3, none⟩) hkl).trans h3
  have HB := Lib.hid hB
  clear h0 h1 h2 h3 hB
  go_enter Tryd.func68, Tryd.ntmps68
  go_wp2_with fail
  exact bodyPost_ret (results_row_tmp rfl _ _ w.heap.size 115 _ (0, 0) _ rfl (heap_alloc_new w _) Tryd.underlying115 rfl (spec_size _ _ _ _) _ rfl) rfl ⟨rfl, (Below.refl _ _).alloc (Nat.le_refl _) _⟩

set_option maxHeartbeats 1000000 in
set_option maxRecDepth 100000 in
theorem sch_find_no (k m : Nat) (i : Int) (w : World) (hi : i < 1 ∨ (m : Int) ≤ i) :
    Calls Tryd.prog 68 #[.slice (some ⟨k, 0, none⟩) m m, .int .i64 i] w fun en w' => en = .returned (.tuple #[.agg #[.slice none 0 0, .int .i64 0, .int .i64 0, .int .i64 0], .bool false]) ∧ Below w.heap.size w w' := by
  by_cases h1 : i < 1
  · have t1 : decide (i < 1) = true := decide_eq_true h1
    go_enter Tryd.func68, Tryd.ntmps68
    go_wp2_with fail
    exact bodyPost_ret (results_row_tmp rfl _ _ w.heap.size 115 _ (0, 0) _ rfl (heap_alloc_new w _) Tryd.underlying115 rfl (spec_size _ _ _ _) _ rfl) rfl ⟨rfl, (Below.refl _ _).alloc (Nat.le_refl _) _⟩
  · have t1 : decide (i < 1) = false := decide_eq_false h1
    have t2 : decide ((m : Int) ≤ i) = true := decide_eq_true (by omega)
    go_enter Tryd.func68, Tryd.ntmps68
    go_wp2_with fail
    exact bodyPost_ret (results_row_tmp rfl _ _ w.heap.size 115 _ (0, 0) _ rfl (heap_alloc_new w _) Tryd.underlying115 rfl (spec_size _ _ _ _) _ rfl) rfl ⟨rfl, (Below.refl _ _).alloc (Nat.le_refl _) _⟩

theorem cells4 {w : World} {k : Nat} {a b c d : Value} {t : TypeId} (h : w.heap[k]? = some (.cells #[a, b, c, d] t (0, 0))) :
    w.cell? ⟨k, 0, none⟩ = some a ∧ w.cell? ⟨k, 1, none⟩ = some b ∧ w.cell? ⟨k, 2, none⟩ = some c ∧ w.cell? ⟨k, 3, none⟩ = some d := by
  unfold World.cell?; rw [h]; exact ⟨rfl, rfl, rfl, rfl⟩
theorem frozen4 {w : World} {k : Nat} {cs : Array Value} {t : TypeId} (h : w.heap[k]? = some (.cells cs t (0, 0))) (j : Nat) : w.frozen? ⟨k, j, none⟩ = false := by
  unfold World.frozen?; rw [h]; simp
theorem set4 {w : World} {k : Nat} {a b c d : Value} {t : TypeId} (h : w.heap[k]? = some (.cells #[a, b, c, d] t (0, 0))) (x y u v : Value) :
    ((((w.setCell ⟨k, 0, none⟩ x).setCell ⟨k, 1, none⟩ y).setCell ⟨k, 2, none⟩ u).setCell ⟨k, 3, none⟩ v).heap[k]? = some (.cells #[x, y, u, v] t (0, 0)) := by
  unfold World.setCell; simp [Array.getElem?_modify, h]
theorem RNums.set {w : World} {k : Nat} {v : Value} {l : List Int} (h : RNums w v l) (hn : v.ownBlock ≠ some k) (j : Nat) (u : Value) : RNums (w.setCell ⟨k, j, none⟩ u) v l := by
  obtain ⟨A, c, rfl, h⟩ := h
  refine ⟨A, c, rfl, fun hl => ?_⟩
  obtain ⟨ad, rfl, hc⟩ := h hl
  refine ⟨ad, rfl, fun i hi => ?_⟩
  have hb : (ad.add i).block = ad.block := by unfold Addr.add; split <;> rfl
  have hne : (ad.add i).block ≠ k := by rw [hb]; simpa [Value.ownBlock] using hn
  exact (World.cell?_of_block (Below.heap_setCell _ _ _ _ hne)).trans (hc i hi)
def specV (v : Value) (s : Pl.Spec) : Value := .agg #[v, .int .i64 s.texts, .int .i64 s.least, .int .i64 s.most]

set_option maxHeartbeats 2000000 in
set_option maxRecDepth 100000 in
theorem sch_old (kind : Int) (w : World) :
    Calls Tryd.prog 47 #[.int .i64 kind] w fun en w' => (∃ v, en = .returned (.tuple #[specV v ((Pl.oldSpec kind).getD Pl.noSpec), .bool (Pl.oldSpec kind).isSome]) ∧ RNums w' v ((Pl.oldSpec kind).getD Pl.noSpec).ints ∧ ∀ j, v.ownBlock = some j → w.heap.size ≤ j) ∧ Below w.heap.size w w' := by
  have HI : Hid (∀ (n : Nat) (c : Int) (w : World), 1 ≤ n → n ≤ 1000 → Calls Tryd.prog 69 #[.int .i64 n, .int .i64 c] w fun en w' => (∃ k, w.heap.size ≤ k ∧ en = .returned (.slice (some ⟨k, 0, none⟩) n n) ∧ w'.heap[k]? = some (.cells (List.replicate n (.int .i64 c)).toArray 3 (0, 0))) ∧ Below w.heap.size w w') := sch_ints
  go_enter Tryd.func47, Tryd.ntmps47
  go_wp2_with fail
  refine (HI.out 4 2 _ (by decide) (by decide)).mono ?_
  rintro en w1 ⟨⟨k1, hk1, rfl, hr1⟩, hb1⟩
  have HR1 : Hid (w1.heap[w.heap.size]? = some (.cells #[.slice none 0 0, .int .i64 0, .int .i64 0, .int .i64 0] 115 (0, 0))) := (hb1.block _ (by simp)).trans (heap_alloc_new w _)
  have HB1 : Hid (Below w.heap.size w w1) := ((Below.refl _ _).alloc (Nat.le_refl _) _).trans (hb1.mono (by simp))
  have A1 : Hid (RNums w1 (.slice (some ⟨k1, 0, none⟩) 4 4) [2, 2, 2, 2]) := RNums.rep hr1
  have n1 : w.heap.size < k1 := by simp at hk1; omega
  clear hk1 hr1 hb1
  go_wp2_with fail
  refine (HI.out 1 3 _ (by decide) (by decide)).mono ?_
  rintro en w2 ⟨⟨k2, hk2, rfl, hr2⟩, hb2⟩
  have HR2 : Hid (w2.heap[w.heap.size]? = some (.cells #[.slice none 0 0, .int .i64 0, .int .i64 0, .int .i64 0] 115 (0, 0))) := (hb2.block _ (Array.getElem?_eq_some_iff.1 HR1.out).1).trans HR1.out
  have HB2 : Hid (Below w.heap.size w w2) := HB1.out.trans (hb2.mono HB1.out.size)
  replace A1 : Hid (RNums w2 (.slice (some ⟨k1, 0, none⟩) 4 4) [2, 2, 2, 2]) := A1.out.below hb2
  have A2 : Hid (RNums w2 (.slice (some ⟨k2, 0, none⟩) 1 1) [3]) := RNums.rep hr2
  have n2 : w.heap.size < k2 := by have := (Array.getElem?_eq_some_iff.1 HR1.out).1; omega
  clear hk2 hr2 hb2 HR1 HB1
  go_wp2_with fail
  refine (HI.out 1 3 _ (by decide) (by decide)).mono ?_
  rintro en w3 ⟨⟨k3, hk3, rfl, hr3⟩, hb3⟩
  have HR3 : Hid (w3.heap[w.heap.size]? = some (.cells #[.slice none 0 0, .int .i64 0, .int .i64 0, .int .i64 0] 115 (0, 0))) := (hb3.block _ (Array.getElem?_eq_some_iff.1 HR2.out).1).trans HR2.out
  have HB3 : Hid (Below w.heap.size w w3) := HB2.out.trans (hb3.mono HB2.out.size)
  replace A1 : Hid (RNums w3 (.slice (some ⟨k1, 0, none⟩) 4 4) [2, 2, 2, 2]) := A1.out.below hb3
  replace A2 : Hid (RNums w3 (.slice (some ⟨k2, 0, none⟩) 1 1) [3]) := A2.out.below hb3
  have A3 : Hid (RNums w3 (.slice (some ⟨k3, 0, none⟩) 1 1) [3]) := RNums.rep hr3
  have n3 : w.heap.size < k3 := by have := (Array.getElem?_eq_some_iff.1 HR2.out).1; omega
  clear hk3 hr3 hb3 HR2 HB2
  go_wp2_with fail
  refine (HI.out 1 4 _ (by decide) (by decide)).mono ?_
  rintro en w4 ⟨⟨k4, hk4, rfl, hr4⟩, hb4⟩
  have HR4 : Hid (w4.heap[w.heap.size]? = some (.cells #[.slice none 0 0, .int .i64 0, .int .i64 0, .int .i64 0] 115 (0, 0))) := (hb4.block _ (Array.getElem?_eq_some_iff.1 HR3.out).1).trans HR3.out
  have HB4 : Hid (Below w.heap.size w w4) := HB3.out.trans (hb4.mono HB3.out.size)
  replace A1 : Hid (RNums w4 (.slice (some ⟨k1, 0, none⟩) 4 4) [2, 2, 2, 2]) := A1.out.below hb4
  replace A2 : Hid (RNums w4 (.slice (some ⟨k2, 0, none⟩) 1 1) [3]) := A2.out.below hb4
  replace A3 : Hid (RNums w4 (.slice (some ⟨k3, 0, none⟩) 1 1) [3]) := A3.out.below hb4
  have A4 : Hid (RNums w4 (.slice (some ⟨k4, 0, none⟩) 1 1) [4]) := RNums.rep hr4
  have n4 : w.heap.size < k4 := by have := (Array.getElem?_eq_some_iff.1 HR3.out).1; omega
  clear hk4 hr4 hb4 HR3 HB3 HI
  go_wp2_with fail
  have hT := heap_alloc_new w4 (.cells #[.slice none 0 0, .int .i64 0, .int .i64 0, .int .i64 0, .slice none 0 0, .int .i64 0, .int .i64 0, .int .i64 (-1), .slice (some ⟨k1, 0, none⟩) 4 4, .int .i64 0, .int .i64 1, .int .i64 1, .slice (some ⟨k2, 0, none⟩) 1 1, .int .i64 1, .int .i64 0, .int .i64 0, .slice (some ⟨k3, 0, none⟩) 1 1, .int .i64 1, .int .i64 0, .int .i64 0, .slice none 0 0, .int .i64 1, .int .i64 0, .int .i64 0, .slice (some ⟨k4, 0, none⟩) 1 1, .int .i64 0, .int .i64 0, .int .i64 0] 115)
  have hbT : Below w4.heap.size w4 (w4.alloc (.cells #[.slice none 0 0, .int .i64 0, .int .i64 0, .int .i64 0, .slice none 0 0, .int .i64 0, .int .i64 0, .int .i64 (-1), .slice (some ⟨k1, 0, none⟩) 4 4, .int .i64 0, .int .i64 1, .int .i64 1, .slice (some ⟨k2, 0, none⟩) 1 1, .int .i64 1, .int .i64 0, .int .i64 0, .slice (some ⟨k3, 0, none⟩) 1 1, .int .i64 1, .int .i64 0, .int .i64 0, .slice none 0 0, .int .i64 1, .int .i64 0, .int .i64 0, .slice (some ⟨k4, 0, none⟩) 1 1, .int .i64 0, .int .i64 0, .int .i64 0] 115)) := (Below.refl _ _).alloc (Nat.le_refl _) _
  have HR5 : Hid ((w4.alloc (.cells #[.slice none 0 0, .int .i64 0, .int .i64 0, .int .i64 0, .slice none 0 0, .int .i64 0, .int .i64 0, .int .i64 (-1), .slice (some ⟨k1, 0, none⟩) 4 4, .int .i64 0, .int .i64 1, .int .i64 1, .slice (some ⟨k2, 0, none⟩) 1 1, .int .i64 1, .int .i64 0, .int .i64 0, .slice (some ⟨k3, 0, none⟩) 1 1, .int .i64 1, .int .i64 0, .int .i64 0, .slice none 0 0, .int .i64 1, .int .i64 0, .int .i64 0, .slice (some ⟨k4, 0, none⟩) 1 1, .int .i64 0, .int .i64 0, .int .i64 0] 115)).heap[w.heap.size]? = some (.cells #[.slice none 0 0, .int .i64 0, .int .i64 0, .int .i64 0] 115 (0, 0))) := (hbT.block _ (Array.getElem?_eq_some_iff.1 HR4.out).1).trans HR4.out
  have HB5 : Hid (Below w.heap.size w (w4.alloc (.cells #[.slice none 0 0, .int .i64 0, .int .i64 0, .int .i64 0, .slice none 0 0, .int .i64 0, .int .i64 0, .int .i64 (-1), .slice (some ⟨k1, 0, none⟩) 4 4, .int .i64 0, .int .i64 1, .int .i64 1, .slice (some ⟨k2, 0, none⟩) 1 1, .int .i64 1, .int .i64 0, .int .i64 0, .slice (some ⟨k3, 0, none⟩) 1 1, .int .i64 1, .int .i64 0, .int .i64 0, .slice none 0 0, .int .i64 1, .int .i64 0, .int .i64 0, .slice (some ⟨k4, 0, none⟩) 1 1, .int .i64 0, .int .i64 0, .int .i64 0] 115))) := HB4.out.trans (hbT.mono HB4.out.size)
  replace A1 := A1.out.below hbT
  replace A2 := A2.out.below hbT
  replace A3 := A3.out.below hbT
  replace A4 := A4.out.below hbT
  clear hbT HR4 HB4
  generalize w4.alloc (.cells #[.slice none 0 0, .int .i64 0, .int .i64 0, .int .i64 0, .slice none 0 0, .int .i64 0, .int .i64 0, .int .i64 (-1), .slice (some ⟨k1, 0, none⟩) 4 4, .int .i64 0, .int .i64 1, .int .i64 1, .slice (some ⟨k2, 0, none⟩) 1 1, .int .i64 1, .int .i64 0, .int .i64 0, .slice (some ⟨k3, 0, none⟩) 1 1, .int .i64 1, .int .i64 0, .int .i64 0, .slice none 0 0, .int .i64 1, .int .i64 0, .int .i64 0, .slice (some ⟨k4, 0, none⟩) 1 1, .int .i64 0, .int .i64 0, .int .i64 0] 115) = w5 at *
  generalize w4.heap.size = k at *
  have HFD : ∃ v, RNums w5 v ((Pl.oldSpec kind).getD Pl.noSpec).ints ∧ (∀ j, v.ownBlock = some j → w.heap.size < j) ∧ Calls Tryd.prog 68 #[.slice (some ⟨k, 0, none⟩) 7 7, .int .i64 kind] w5 fun en w' => en = .returned (.tuple #[specV v ((Pl.oldSpec kind).getD Pl.noSpec), .bool (Pl.oldSpec kind).isSome]) ∧ Below w5.heap.size w5 w' := by
    by_cases hk : kind < 1 ∨ ((7 : Nat) : Int) ≤ kind
    · have ho : Pl.oldSpec kind = none := by unfold Pl.oldSpec; repeat rw [if_neg (by omega)]
      rw [ho]
      exact ⟨_, RNums.nil _, by simp [Value.ownBlock], sch_find_no k 7 kind w5 hk⟩
    · obtain rfl | rfl | rfl | rfl | rfl | rfl : kind = 1 ∨ kind = 2 ∨ kind = 3 ∨ kind = 4 ∨ kind = 5 ∨ kind = 6 := by omega
      · exact ⟨_, RNums.nil _, by simp [Value.ownBlock], sch_find k 7 1 none 0 0 0 0 (-1) w5 (by decide) (by decide) (by rw [cell_row hT]; rfl) (by rw [cell_row hT]; rfl) (by rw [cell_row hT]; rfl) (by rw [cell_row hT]; rfl)⟩
      · exact ⟨_, A1, (fun j hj => by simp [Value.ownBlock] at hj; subst hj; exact n1), sch_find k 7 2 _ 4 4 0 1 1 w5 (by decide) (by decide) (by rw [cell_row hT]; rfl) (by rw [cell_row hT]; rfl) (by rw [cell_row hT]; rfl) (by rw [cell_row hT]; rfl)⟩
      · exact ⟨_, A2, (fun j hj => by simp [Value.ownBlock] at hj; subst hj; exact n2), sch_find k 7 3 _ 1 1 1 0 0 w5 (by decide) (by decide) (by rw [cell_row hT]; rfl) (by rw [cell_row hT]; rfl) (by rw [cell_row hT]; rfl) (by rw [cell_row hT]; rfl)⟩
      · exact ⟨_, A3, (fun j hj => by simp [Value.ownBlock] at hj; subst hj; exact n3), sch_find k 7 4 _ 1 1 1 0 0 w5 (by decide) (by decide) (by rw [cell_row hT]; rfl) (by rw [cell_row hT]; rfl) (by rw [cell_row hT]; rfl) (by rw [cell_row hT]; rfl)⟩
      · exact ⟨_, RNums.nil _, by simp [Value.ownBlock], sch_find k 7 5 none 0 0 1 0 0 w5 (by decide) (by decide) (by rw [cell_row hT]; rfl) (by rw [cell_row hT]; rfl) (by rw [cell_row hT]; rfl) (by rw [cell_row hT]; rfl)⟩
      · exact ⟨_, A4, (fun j hj => by simp [Value.ownBlock] at hj; subst hj; exact n4), sch_find k 7 6 _ 1 1 0 0 0 w5 (by decide) (by decide) (by rw [cell_row hT]; rfl) (by rw [cell_row hT]; rfl) (by rw [cell_row hT]; rfl) (by rw [cell_row hT]; rfl)⟩
  obtain ⟨v, hv, hnv, hF⟩ := HFD
  clear hT A1 A2 A3 A4 n1 n2 n3 n4
  obtain ⟨V, c, rfl, hv'⟩ := hv
  refine hF.mono ?_
  rintro en w6 ⟨rfl, hb6⟩
  have HR6 : Hid (w6.heap[w.heap.size]? = some (.cells #[.slice none 0 0, .int .i64 0, .int .i64 0, .int .i64 0] 115 (0, 0))) := (hb6.block _ (Array.getElem?_eq_some_iff.1 HR5.out).1).trans HR5.out
  have HB6 : Hid (Below w.heap.size w w6) := HB5.out.trans (hb6.mono HB5.out.size)
  have HV : Hid (RNums w6 (.slice V ((Pl.oldSpec kind).getD Pl.noSpec).ints.length c) ((Pl.oldSpec kind).getD Pl.noSpec).ints) := RNums.below ⟨V, c, rfl, hv'⟩ hb6
  have HN : Hid ((Value.slice V ((Pl.oldSpec kind).getD Pl.noSpec).ints.length c).ownBlock ≠ some w.heap.size) := fun h => Nat.lt_irrefl _ (hnv _ h)
  have HN2 : Hid (∀ j, (Value.slice V ((Pl.oldSpec kind).getD Pl.noSpec).ints.length c).ownBlock = some j → w.heap.size ≤ j) := fun j hj => Nat.le_of_lt (hnv j hj)
  clear hF hb6 HR5 HB5 hv' hnv
  generalize hs : (Pl.oldSpec kind).getD Pl.noSpec = s at *
  generalize hk : (Pl.oldSpec kind).isSome = ok at *
  have HS := Lib.hid hs
  have HK := Lib.hid hk
  clear hs hk
  obtain ⟨l, x, y, z⟩ := s
  simp only [specV]
  obtain ⟨hO0, hO1, hO2, hO3⟩ := cells4 HR6.out
  have hOf : ∀ j, w6.frozen? ⟨w.heap.size, j, none⟩ = false := frozen4 HR6.out
  go_wp2_with fail
  exact bodyPost_ret (results_row_tmp rfl _ _ w.heap.size 115 _ (0, 0) _ rfl (set4 HR6.out _ _ _ _) Tryd.underlying115 rfl (spec_size _ _ _ _) _ rfl) rfl (by rw [HS.out, HK.out]; exact ⟨⟨_, rfl, (((HV.out.set HN.out _ _).set HN.out _ _).set HN.out _ _).set HN.out _ _, HN2.out⟩, (((HB6.out.setCell (Nat.le_refl _) _).setCell (Nat.le_refl _) _).setCell (Nat.le_refl _) _).setCell (Nat.le_refl _) _⟩)
end Go.Proofs.YtdejljgoebcmpaaDoor
/- Plain: numbers by bytes. No program in sight. -/
namespace Go.Proofs.YtdejljgoebcmpaaDoor.Pl
abbrev Bytes := List UInt8
def str (l : Bytes) : ByteArray := ⟨l.toArray⟩

/-- A number's bytes. -/
def vPut (n : Nat) : Bytes := if n < 128 then [UInt8.ofNat n] else UInt8.ofNat (128 + n % 128) :: vPut (n / 128)
  termination_by n
  decreasing_by omega

/-- What stands there: the number, how many bytes, the error. -/
def vGo : Bytes → Nat → Nat → Nat × Nat × Nat
  | [], _, _ => (0, 0, 2)
  | c :: r, i, a =>
    if (i = 9 ∧ 1 < c.toNat) ∨ (c.toNat = 0 ∧ 0 < i) then (0, 0, 3)
    else if c.toNat < 128 then (a + c.toNat % 128 * 2 ^ (7 * i), i + 1, 0) else vGo r (i + 1) (a + c.toNat % 128 * 2 ^ (7 * i))
def vGet (l : Bytes) (p : Nat) : Nat × Nat × Nat :=
  let r := vGo (l.drop p) 0 0
  (r.1, if r.2.2 = 0 then p + r.2.1 else 0, r.2.2)

theorem vGet_ok {l : Bytes} {p n c : Nat} (h : vGo (l.drop p) 0 0 = (n, c, 0)) : vGet l p = (n, p + c, 0) := by unfold vGet; rw [h]; simp
theorem vGet_err {l : Bytes} {p e : Nat} (h : vGo (l.drop p) 0 0 = (0, 0, e + 1)) : vGet l p = (0, 0, e + 1) := by unfold vGet; rw [h]; simp
theorem vGo_bd (l : Bytes) : ∀ i a, i ≤ 9 → a < 2 ^ (7 * i) → (vGo l i a).2.2 = 0 → i < (vGo l i a).2.1 ∧ (vGo l i a).2.1 ≤ i + l.length ∧ (vGo l i a).1 < 2 ^ 64 := by
  induction l with
  | nil => intro i a _ _ h; simp [vGo] at h
  | cons c r ih =>
    intro i a hi ha
    have hc := UInt8.toNat_lt c
    unfold vGo
    by_cases h1 : (i = 9 ∧ 1 < c.toNat) ∨ (c.toNat = 0 ∧ 0 < i)
    · rw [if_pos h1]; intro h; simp at h
    · rw [if_neg h1]
      have hg : a + c.toNat % 128 * 2 ^ (7 * i) < 2 ^ (7 * (i + 1)) := by
        have : (c.toNat % 128 + 1) * 2 ^ (7 * i) ≤ 128 * 2 ^ (7 * i) := Nat.mul_le_mul_right _ (by omega)
        rw [show 7 * (i + 1) = 7 * i + 7 from by omega, Nat.pow_add]
        rw [Nat.add_mul] at this
        omega
      by_cases h2 : c.toNat < 128
      · rw [if_pos h2]
        intro _
        refine ⟨by simp, by simp, ?_⟩
        show a + c.toNat % 128 * 2 ^ (7 * i) < 2 ^ 64
        rcases Nat.lt_or_ge i 9 with h9 | h9
        · exact Nat.lt_of_lt_of_le hg (Nat.pow_le_pow_right (by decide) (by omega))
        · obtain rfl : i = 9 := by omega
          have : c.toNat % 128 ≤ 1 := by omega
          have : c.toNat % 128 * 2 ^ (7 * 9) ≤ 1 * 2 ^ (7 * 9) := Nat.mul_le_mul_right _ this
          omega
      · rw [if_neg h2]
        have hi9 : i < 9 := by omega
        intro h
        have := ih (i + 1) _ (by omega) hg h
        simp only [List.length_cons]
        omega
theorem vGet_bd (l : Bytes) (p : Nat) (hp : p ≤ l.length) : (vGet l p).1 < 2 ^ 64 ∧ (vGet l p).2.1 ≤ l.length ∧ ((vGet l p).2.2 = 0 → p < (vGet l p).2.1) := by
  have h := vGo_bd (l.drop p) 0 0 (by decide) (by decide)
  have h3 : (vGo (l.drop p) 0 0).2.2 ≠ 0 → (vGo (l.drop p) 0 0).1 = 0 := by
    have : ∀ (l : Bytes) i a, (vGo l i a).2.2 ≠ 0 → (vGo l i a).1 = 0 := by
      intro l
      induction l with
      | nil => intro i a _; rfl
      | cons c r ih =>
        intro i a
        unfold vGo
        split
        · intro _; rfl
        · split
          · intro h; simp at h
          · exact ih _ _
    exact this _ _ _
  unfold vGet
  simp only [List.length_drop] at h
  by_cases h0 : (vGo (l.drop p) 0 0).2.2 = 0
  · have := h h0
    simp only [h0, if_true]
    omega
  · have := h3 h0
    simp only [h0, if_false, this]
    simp
theorem vGo_end (b : ByteArray) (q i a : Nat) (h : b.size ≤ q) : vGo (b.data.toList.drop q) i a = (0, 0, 2) := by
  rw [List.drop_eq_nil_of_le (by simpa using h)]; rfl
theorem vGo_step (b : ByteArray) (q i a : Nat) (h : q < b.size) : vGo (b.data.toList.drop q) i a =
    if (i = 9 ∧ 1 < b[q].toNat) ∨ (b[q].toNat = 0 ∧ 0 < i) then (0, 0, 3)
    else if b[q].toNat < 128 then (a + b[q].toNat % 128 * 2 ^ (7 * i), i + 1, 0) else vGo (b.data.toList.drop (q + 1)) (i + 1) (a + b[q].toNat % 128 * 2 ^ (7 * i)) := by
  rw [List.drop_eq_getElem_cons (by simpa using h)]
  rfl
def zig (n : Int) : Nat := if 0 ≤ n then (2 * n).toNat else (-2 * n - 1).toNat
def zag (n : Nat) : Int := if n % 2 = 0 then (n / 2 : Nat) else -((n / 2 : Nat) : Int) - 1

theorem wrap_u64 (n : Int) : IntKind.u64.wrap n = n % 18446744073709551616 := by simp [IntKind.wrap, IntKind.bits, IntKind.signed]
theorem wraps_u64 (n : Int) (h₀ : 0 ≤ n) (h₁ : n < 2 ^ 64) : IntKind.u64.wrap n = n := by rw [wrap_u64]; omega
theorem and127 {x : Int} (h₀ : 0 ≤ x) (h₁ : x < 256) : bits .and .u8 x 127 = x % 128 := bits_mask .u8 8 (by decide) wraps_u8 7 (by decide) x h₀ h₁
theorem and1_u64 {x : Int} (h₀ : 0 ≤ x) (h₁ : x < 2 ^ 64) : bits .and .u64 x 1 = x % 2 := bits_mask .u64 64 (by decide) wraps_u64 1 (by decide) x h₀ h₁
theorem or128 {x : Int} (h₀ : 0 ≤ x) (h₁ : x < 256) : bits .or .u8 x 128 = 128 + x % 128 := by
  obtain ⟨a, rfl⟩ := Int.eq_ofNat_of_zero_le h₀
  have ha : a < 256 := by omega
  rw [show (128 : Int) = ((128 : Nat) : Int) from rfl, (bits_nat .u8 8 (by decide) wraps_u8 a 128 (by omega) (by omega)).2]
  have : ∀ a : Fin 256, (a.val ||| 128) = 128 + a.val % 128 := by decide +kernel
  have := this ⟨a, ha⟩
  simp only at this
  omega
theorem or_place (m x i : Nat) (hi : i ≤ 9) (hm : m < 2 ^ (7 * i)) (hx : x < 128) (h9 : i = 9 → x ≤ 1) : bits .or .u64 (m : Int) ((x * 2 ^ (7 * i) : Nat) : Int) = ((m + x * 2 ^ (7 * i) : Nat) : Int) := by
  have hb : x * 2 ^ (7 * i) < 2 ^ 64 := by
    rcases Nat.lt_or_ge i 9 with h | h
    · calc x * 2 ^ (7 * i) < 128 * 2 ^ (7 * i) := Nat.mul_lt_mul_of_pos_right hx (Nat.two_pow_pos _)
        _ = 2 ^ (7 * i + 7) := by rw [Nat.pow_add, Nat.mul_comm]
        _ ≤ 2 ^ 64 := Nat.pow_le_pow_right (by decide) (by omega)
    · obtain rfl : i = 9 := by omega
      have := h9 rfl
      have : x * 2 ^ (7 * 9) ≤ 1 * 2 ^ (7 * 9) := Nat.mul_le_mul_right _ this
      omega
  have hm' : m < 2 ^ 64 := Nat.lt_of_lt_of_le hm (Nat.pow_le_pow_right (by decide) (by omega))
  rw [(bits_nat .u64 64 (by decide) wraps_u64 m _ hm' hb).2, Nat.or_comm, Nat.mul_comm x, ← Nat.two_pow_add_eq_or_of_lt hm, Nat.mul_comm, Nat.add_comm]
theorem wrap_u32' (n : Int) : IntKind.u32.wrap n = n % 4294967296 := IntKind.wrap_u32 n
theorem xor_u32 (a b : Nat) (ha : a < 2 ^ 32) (hb : b < 2 ^ 32) : bits .xor .u32 (a : Int) (b : Int) = ((a ^^^ b : Nat) : Int) := by
  have h2 : bits .xor .u32 (a : Int) (b : Int) = IntKind.u32.wrap ((BitVec.ofInt 32 (a : Int) ^^^ BitVec.ofInt 32 (b : Int)).toNat : Int) := rfl
  have h3 : a ^^^ b < 2 ^ 32 := Nat.xor_lt_two_pow ha hb
  rw [h2, BitVec.ofInt_natCast, BitVec.ofInt_natCast, BitVec.toNat_xor, BitVec.toNat_ofNat, BitVec.toNat_ofNat, Nat.mod_eq_of_lt ha, Nat.mod_eq_of_lt hb, IntKind.wrap_u32]
  omega
theorem xor_u8 (a b : Nat) (ha : a < 2 ^ 8) (hb : b < 2 ^ 8) : bits .xor .u8 (a : Int) (b : Int) = ((a ^^^ b : Nat) : Int) := by
  have h2 : bits .xor .u8 (a : Int) (b : Int) = IntKind.u8.wrap ((BitVec.ofInt 8 (a : Int) ^^^ BitVec.ofInt 8 (b : Int)).toNat : Int) := rfl
  have h3 : a ^^^ b < 2 ^ 8 := Nat.xor_lt_two_pow ha hb
  rw [h2, BitVec.ofInt_natCast, BitVec.ofInt_natCast, BitVec.toNat_xor, BitVec.toNat_ofNat, BitVec.toNat_ofNat, Nat.mod_eq_of_lt ha, Nat.mod_eq_of_lt hb, IntKind.wrap_u8]
  omega
theorem and1_u32 {x : Int} (h₀ : 0 ≤ x) (h₁ : x < 2 ^ 32) : bits .and .u32 x 1 = x % 2 :=
  bits_mask .u32 32 (by decide) (fun n h0 h1 => by rw [IntKind.wrap_u32]; omega) 1 (by decide) x h₀ h₁
/-- One bit's step of the check sum's register; eight; a byte's; bytes'. -/
def poly : Nat := 3988292384
def crcBit (x : Nat) : Nat := if x % 2 = 1 then x / 2 ^^^ poly else x / 2
def crcBits : Nat → Nat → Nat
  | 0, x => x
  | k + 1, x => crcBits k (crcBit x)
def crcTab (i : Nat) : Nat := crcBits 8 i
theorem crcBit_lt {x : Nat} (h : x < 2 ^ 32) : crcBit x < 2 ^ 32 := by
  unfold crcBit; split
  · exact Nat.xor_lt_two_pow (by omega) (by decide)
  · omega
theorem crcBits_lt {k x : Nat} (h : x < 2 ^ 32) : crcBits k x < 2 ^ 32 := by
  induction k generalizing x with
  | zero => exact h
  | succ k ih => exact ih (crcBit_lt h)
def crcStep (x b : Nat) : Nat := x / 256 ^^^ crcTab (x % 256 ^^^ b)
def crcGo (x : Nat) (l : Bytes) : Nat := l.foldl (fun x c => crcStep x c.toNat) x
def crc (l : Bytes) : Nat := 4294967295 - crcGo 4294967295 l
theorem not_u32 (a : Nat) (ha : a < 2 ^ 32) : bits .xor .u32 IntKind.u32.max (a : Int) = ((4294967295 - a : Nat) : Int) := by
  have h2 : bits .xor .u32 IntKind.u32.max (a : Int) = IntKind.u32.wrap ((BitVec.ofInt 32 IntKind.u32.max ^^^ BitVec.ofInt 32 (a : Int)).toNat : Int) := rfl
  rw [h2, show BitVec.ofInt 32 IntKind.u32.max = BitVec.allOnes 32 from by decide, BitVec.allOnes_xor, BitVec.toNat_not, BitVec.ofInt_natCast, BitVec.toNat_ofNat, Nat.mod_eq_of_lt ha, IntKind.wrap_u32]
  omega
theorem crcStep_lt {x b : Nat} (hx : x < 2 ^ 32) (hb : b < 256) : crcStep x b < 2 ^ 32 := by
  have h1 : x % 256 ^^^ b < 2 ^ 8 := Nat.xor_lt_two_pow (by omega) (by omega)
  exact Nat.xor_lt_two_pow (by omega) (crcBits_lt (by omega))
theorem crcGo_lt {x : Nat} (hx : x < 2 ^ 32) (l : Bytes) : crcGo x l < 2 ^ 32 := by
  unfold crcGo
  induction l generalizing x with
  | nil => exact hx
  | cons c r ih => exact ih (crcStep_lt hx (UInt8.toNat_lt c))
theorem take_snoc (l : Bytes) (k : Nat) (h : k < l.length) : l.take (k + 1) = l.take k ++ [l[k]] := List.take_succ_eq_append_getElem h
def crcPut (s : Nat) : Bytes := [UInt8.ofNat s, UInt8.ofNat (s / 256), UInt8.ofNat (s / 65536), UInt8.ofNat (s / 16777216)]
def crcGet (l : Bytes) : Nat := (l.getD 0 0).toNat + 256 * (l.getD 1 0).toNat + 65536 * (l.getD 2 0).toNat + 16777216 * (l.getD 3 0).toNat
theorem or_u32 (i : Nat) (y x : Int) (hx₀ : 0 ≤ x) (hx : x % 2 ^ i = 0) (hx₁ : x < 2 ^ 32) (hy₀ : 0 ≤ y) (hy : y < 2 ^ i) (hy₁ : y < 2 ^ 32) : bits .or .u32 y x = y + x := by
  have hc : bits .or .u32 y x = bits .or .u32 x y := by
    show IntKind.u32.wrap ((BitVec.ofInt 32 y ||| BitVec.ofInt 32 x).toNat : Int) = IntKind.u32.wrap ((BitVec.ofInt 32 x ||| BitVec.ofInt 32 y).toNat : Int)
    rw [BitVec.or_comm]
  rw [hc, bits_join .u32 32 (by decide) (fun n h0 h1 => by rw [IntKind.wrap_u32]; omega) i x y hx₀ hx hx₁ hy₀ hy hy₁]
  omega
theorem crcGet_bits (a b c d : Nat) (ha : a < 256) (hb : b < 256) (hc : c < 256) (hd : d < 256) :
    bits .or .u32 (bits .or .u32 (bits .or .u32 ((a : Int) % 4294967296) ((b : Int) % 4294967296 * 256 % 4294967296)) ((c : Int) % 4294967296 * 65536 % 4294967296)) ((d : Int) % 4294967296 * 16777216 % 4294967296) = ((a + 256 * b + 65536 * c + 16777216 * d : Nat) : Int) := by
  rw [or_u32 8 ((a : Int) % 4294967296) _ (by omega) (by omega) (by omega) (by omega) (by omega) (by omega)]
  rw [or_u32 16 _ ((c : Int) % 4294967296 * 65536 % 4294967296) (by omega) (by omega) (by omega) (by omega) (by omega) (by omega)]
  rw [or_u32 24 _ ((d : Int) % 4294967296 * 16777216 % 4294967296) (by omega) (by omega) (by omega) (by omega) (by omega) (by omega)]
  omega
theorem xor0_u64 {x : Int} (h₀ : 0 ≤ x) (h₁ : x < 2 ^ 64) : bits .xor .u64 x 0 = x := by
  obtain ⟨a, rfl⟩ := Int.eq_ofNat_of_zero_le h₀
  have ha : a < 2 ^ 64 := by exact_mod_cast h₁
  have h2 : bits .xor .u64 (a : Int) 0 = IntKind.u64.wrap ((BitVec.ofInt 64 (a : Int) ^^^ BitVec.ofInt 64 0).toNat : Int) := rfl
  rw [h2, show BitVec.ofInt 64 0 = 0#64 from rfl, BitVec.xor_zero, BitVec.ofInt_natCast, BitVec.toNat_ofNat, Nat.mod_eq_of_lt ha, wraps_u64 _ (by omega) (by omega)]
theorem xor1_u64 {x : Int} (h₀ : 0 ≤ x) (h₁ : x < 2 ^ 64) : bits .xor .u64 x 18446744073709551615 = 18446744073709551615 - x := by
  obtain ⟨a, rfl⟩ := Int.eq_ofNat_of_zero_le h₀
  have ha : a < 2 ^ 64 := by exact_mod_cast h₁
  have h1 : BitVec.ofInt 64 18446744073709551615 = BitVec.allOnes 64 := by decide
  have h2 : bits .xor .u64 (a : Int) 18446744073709551615 = IntKind.u64.wrap ((BitVec.ofInt 64 (a : Int) ^^^ BitVec.ofInt 64 18446744073709551615).toNat : Int) := rfl
  rw [h2, h1, BitVec.xor_allOnes, BitVec.toNat_not, BitVec.ofInt_natCast, BitVec.toNat_ofNat, Nat.mod_eq_of_lt ha, wraps_u64 _ (by omega) (by omega)]
  omega
theorem zig_bits (n : Int) (h0 : -9223372036854775808 ≤ n) (h1 : n ≤ 9223372036854775807) :
    bits .xor .u64 (IntKind.u64.wrap (IntKind.u64.wrap n * 2)) (IntKind.u64.wrap (n / 9223372036854775808)) = (zig n : Int) := by
  unfold zig
  rw [wrap_u64 n, wrap_u64 (n / _), wrap_u64 (_ * 2)]
  by_cases h : 0 ≤ n
  · rw [if_pos h, show n / 9223372036854775808 % 18446744073709551616 = 0 from by omega, xor0_u64 (by omega) (by omega)]
    omega
  · rw [if_neg h, show n / 9223372036854775808 % 18446744073709551616 = 18446744073709551615 from by omega, xor1_u64 (by omega) (by omega)]
    omega
theorem zig_lt (n : Int) (h0 : -9223372036854775808 ≤ n) (h1 : n ≤ 9223372036854775807) : zig n < 18446744073709551616 := by
  unfold zig; split <;> omega
theorem zag_bits (n : Nat) (h : n < 18446744073709551616) : bits .xor .i64 ((n : Int) / 2) (IntKind.i64.wrap (-IntKind.i64.wrap (bits .and .u64 n 1))) = zag n := by
  unfold zag
  rw [and1_u64 (by omega) (by omega), IntKind.wrap_i64, IntKind.wrap_i64]
  by_cases h2 : n % 2 = 0
  · rw [if_pos h2, show (-(((n : Int) % 2 + 9223372036854775808) % 18446744073709551616 - 9223372036854775808) + 9223372036854775808) % 18446744073709551616 - 9223372036854775808 = 0 from by omega]
    have h3 : bits .xor .i64 ((n : Int) / 2) 0 = IntKind.i64.wrap ((BitVec.ofInt 64 ((n : Int) / 2) ^^^ BitVec.ofInt 64 0).toNat : Int) := rfl
    rw [h3, show BitVec.ofInt 64 0 = 0#64 from rfl, BitVec.xor_zero, show ((n : Int) / 2) = ((n / 2 : Nat) : Int) from by omega, BitVec.ofInt_natCast, BitVec.toNat_ofNat, Nat.mod_eq_of_lt (by omega), IntKind.wrap_i64]
    omega
  · rw [if_neg h2, show (-(((n : Int) % 2 + 9223372036854775808) % 18446744073709551616 - 9223372036854775808) + 9223372036854775808) % 18446744073709551616 - 9223372036854775808 = -1 from by omega]
    have h3 : bits .xor .i64 ((n : Int) / 2) (-1) = IntKind.i64.wrap ((BitVec.ofInt 64 ((n : Int) / 2) ^^^ BitVec.ofInt 64 (-1)).toNat : Int) := rfl
    rw [h3, show BitVec.ofInt 64 (-1) = BitVec.allOnes 64 from by decide, BitVec.xor_allOnes, BitVec.toNat_not, show ((n : Int) / 2) = ((n / 2 : Nat) : Int) from by omega, BitVec.ofInt_natCast, BitVec.toNat_ofNat, Nat.mod_eq_of_lt (by omega), IntKind.wrap_i64]
    omega

theorem crc_lt (l : Bytes) : crc l < 4294967296 := by unfold crc; omega
/-- A file's section. -/
structure Sec where
  id : Int
  pay : Bytes
def secBytes (s : Sec) : Bytes := UInt8.ofNat s.id.toNat :: (vPut s.pay.length ++ s.pay ++ crcPut (crc s.pay))
def frameBytes (magic : Bytes) (v : Nat) (l : List Sec) : Bytes := magic ++ UInt8.ofNat v :: l.flatMap secBytes
/-- A file of sections, all of whose words may be: its bytes, the error. -/
def framePut (magic : Bytes) (v : Nat) (l : List Sec) : Bytes × Int :=
  if l.all (fun s => s.pay.length ≤ 16777216) then (frameBytes magic v l, 0) else ([], 19)
theorem vPut_len (n : Nat) (hn : n < 2 ^ 64) : (vPut n).length ≤ 10 := by
  have : ∀ k n, n < 2 ^ (7 * (k + 1)) → (vPut n).length ≤ k + 1 := by
    intro k
    induction k with
    | zero => intro n h; unfold vPut; rw [if_pos (by omega)]; simp
    | succ k ih =>
      intro n h
      unfold vPut
      split
      · simp
      · have := ih (n / 128) (by rw [show 7 * (k + 1 + 1) = 7 * (k + 1) + 7 from by omega, Nat.pow_add] at h; omega)
        simp; omega
  exact this 9 n (by omega)
theorem secBytes_len (s : Sec) (h : s.pay.length ≤ 16777216) : (secBytes s).length ≤ 16777231 := by
  have := vPut_len s.pay.length (by omega)
  simp [secBytes, crcPut]; omega
end Go.Proofs.YtdejljgoebcmpaaDoor.Pl
/- Plain: nodes that lead to each other. No program in sight. -/
namespace Go.Proofs.YtdejljgoebcmpaaDoor.Pl
open Classical
structure Node where
  kind : Int
  ints : List Int
  texts : List ByteArray
  kids : List Int
structure Scene where
  nodes : List Node
  root : Int

/-- The kids of the node at a place. -/
def kidsAt (l : List Node) (x : Nat) : List Int := match l[x]? with | some n => n.kids | none => []
theorem kidsAt_get {l : List Node} {x : Nat} (h : x < l.length) : kidsAt l x = l[x].kids := by simp [kidsAt, h]
def isPlace (n : Nat) (k : Int) : Prop := 0 ≤ k ∧ k < n
/-- All kids are places. -/
def Refs (l : List Node) : Prop := ∀ n ∈ l, ∀ k ∈ n.kids, isPlace l.length k
theorem Refs.at_ {l : List Node} (h : Refs l) {x : Nat} {k : Int} (hk : k ∈ kidsAt l x) : isPlace l.length k := by
  unfold kidsAt at hk
  split at hk
  · rename_i n hn; exact h n (List.mem_of_getElem? hn) k hk
  · simp at hk
/-- What some lead to, and themselves. -/
inductive Reach (l : List Node) (fr : List Int) : Int → Prop
  | base {k : Int} : k ∈ fr → Reach l fr k
  | step {x k : Int} : Reach l fr x → k ∈ kidsAt l x.toNat → Reach l fr k
theorem Reach.mono {l : List Node} {fr fr' : List Int} {k : Int} (h : Reach l fr k) (hs : ∀ x ∈ fr, Reach l fr' x) : Reach l fr' k := by
  induction h with
  | base hk => exact hs _ hk
  | step _ hk ih => exact .step ih hk
theorem Reach.place {l : List Node} {fr : List Int} {k : Int} (hr : Refs l) (hf : ∀ x ∈ fr, isPlace l.length x) (h : Reach l fr k) : isPlace l.length k := by
  induction h with
  | base hk => exact hf _ hk
  | step _ hk _ => exact hr.at_ hk
/-- A set that is closed holds what is reached. -/
theorem Reach.closed {l : List Node} {fr : List Int} {S : Int → Prop} (h0 : ∀ x ∈ fr, S x) (hc : ∀ x, S x → ∀ k ∈ kidsAt l x.toNat, S k) {k : Int} (h : Reach l fr k) : S k := by
  induction h with
  | base hk => exact h0 _ hk
  | step _ hk ih => exact hc _ ih _ hk
theorem Reach.kid {l : List Node} {x : Int} {k : Int} (h : Reach l (kidsAt l x.toNat) k) : Reach l [x] k :=
  h.mono fun _ hy => .step (.base (by simp)) hy
theorem Reach.cases_self {l : List Node} {x k : Int} (h : Reach l [x] k) : k = x ∨ Reach l (kidsAt l x.toNat) k := by
  induction h with
  | base hk => exact .inl (by simpa using hk)
  | step _ hk ih =>
    rcases ih with rfl | ih
    · exact .inr (.base hk)
    · exact .inr (.step ih hk)
/-- A node that leads to itself. -/
def Cyc (l : List Node) (x : Nat) : Prop := Reach l (kidsAt l x) x
def Acyc (l : List Node) : Prop := ∀ x, x < l.length → ¬ Cyc l x

/-- How many a node leads to. -/
noncomputable def rank (l : List Node) (x : Nat) : Nat := ((List.range l.length).filter fun (y : Nat) => decide (Reach l [(x : Int)] (y : Int))).length
theorem filter_lt {α : Type} (L : List α) (p q : α → Bool) (hpq : ∀ x ∈ L, p x = true → q x = true) (x : α) (hx : x ∈ L) (h1 : p x = false) (h2 : q x = true) : (L.filter p).length < (L.filter q).length := by
  induction L with
  | nil => simp at hx
  | cons a L ih =>
    have hle : (L.filter p).length ≤ (L.filter q).length := by
      clear ih hx
      induction L with
      | nil => simp
      | cons b L ih2 =>
        have := ih2 (fun x hx => hpq x (by simp at hx ⊢; rcases hx with h | h <;> simp [h]))
        have hb := hpq b (by simp)
        simp only [List.filter_cons]
        cases hp : p b <;> cases hq : q b <;> simp_all <;> omega
    rcases List.mem_cons.1 hx with rfl | hx
    · simp [List.filter_cons, h1, h2]; omega
    · have := ih (fun x hx => hpq x (List.mem_cons_of_mem _ hx)) hx
      have ha := hpq a (by simp)
      simp only [List.filter_cons]
      cases hp : p a <;> cases hq : q a <;> simp_all <;> omega
theorem rank_lt {l : List Node} (hr : Refs l) (ha : Acyc l) {x : Nat} (hx : x < l.length) {k : Int} (hk : k ∈ kidsAt l x) : rank l k.toNat < rank l x := by
  have hp := hr.at_ hk
  unfold isPlace at hp
  have hkk : ((k.toNat : Nat) : Int) = k := by omega
  unfold rank
  refine filter_lt _ _ _ (fun y _ h => ?_) x (by simpa using hx) ?_ ?_
  · have h := of_decide_eq_true h
    rw [hkk] at h
    refine decide_eq_true (h.mono fun z hz => ?_)
    obtain rfl : z = k := by simpa using hz
    exact .step (x := (x : Int)) (.base (by simp)) (by simpa using hk)
  · refine decide_eq_false fun h => ha x hx ?_
    rw [hkk] at h
    refine h.mono fun z hz => ?_
    obtain rfl : z = k := by simpa using hz
    exact .base hk
  · exact decide_eq_true (.base (by simp))
/-- The longest way down from each node. -/
def supKids (d : Nat → Nat) (kids : List Int) : Nat := kids.foldl (fun m k => max m (d k.toNat)) 0
def IsDepth (l : List Node) (d : Nat → Nat) : Prop := ∀ x, x < l.length → d x = supKids d (kidsAt l x) + 1
theorem supKids_congr {d d' : Nat → Nat} {kids : List Int} (h : ∀ k ∈ kids, d k.toNat = d' k.toNat) : supKids d kids = supKids d' kids := by
  unfold supKids
  generalize 0 = m
  induction kids generalizing m with
  | nil => rfl
  | cons k kids ih =>
    simp only [List.foldl_cons]
    rw [h k (by simp)]
    exact ih (fun k hk => h k (List.mem_cons_of_mem _ hk)) _
theorem depth_unique {l : List Node} (hr : Refs l) (ha : Acyc l) {d d' : Nat → Nat} (h : IsDepth l d) (h' : IsDepth l d') : ∀ x, x < l.length → d x = d' x := by
  have : ∀ r x, rank l x < r → x < l.length → d x = d' x := by
    intro r
    induction r with
    | zero => intro x h; omega
    | succ r ih =>
      intro x hx hl
      rw [h x hl, h' x hl, supKids_congr fun k hk => ?_]
      have hp := hr.at_ hk
      unfold isPlace at hp
      exact ih _ (by have := rank_lt hr ha hl hk; omega) (by omega)
  exact fun x hx => this _ x (Nat.lt_succ_self _) hx
/-- An order, kids ahead of who leads to them, of as many as can be. -/
structure IsOrder (l : List Node) (out : List Int) : Prop where
  place : ∀ x ∈ out, isPlace l.length x
  nodup : out.Nodup
  topo : ∀ i (h : i < out.length), ∀ k ∈ kidsAt l out[i].toNat, k ∈ out.take i
  full : ∀ x, x < l.length → (x : Int) ∉ out → ∃ k ∈ kidsAt l x, k ∉ out
theorem nodup_sub {α : Type} [DecidableEq α] : ∀ (l m : List α), l.Nodup → (∀ x ∈ l, x ∈ m) → l.length ≤ m.length
  | [], _, _, _ => by simp
  | a :: l, m, hn, hs => by
    have hn' := List.nodup_cons.1 hn
    have h1 := nodup_sub l (m.erase a) hn'.2 (fun x hx => by
      have hne : x ≠ a := fun e => hn'.1 (e ▸ hx)
      exact (List.mem_erase_of_ne hne).2 (hs x (List.mem_cons_of_mem _ hx)))
    have h2 := List.length_erase_of_mem (hs a (by simp))
    have h3 : 0 < m.length := List.length_pos_of_mem (hs a (by simp))
    simp only [List.length_cons]
    omega
theorem nodup_len {n : Nat} {out : List Int} (h : out.Nodup) (hp : ∀ x ∈ out, isPlace n x) : out.length ≤ n := by
  have h2 : (out.map Int.toNat).Nodup := by
    rw [List.Nodup, List.pairwise_map]
    refine List.Pairwise.imp_of_mem (fun {a b} ha hb hne => ?_) h
    have h1 := hp a ha
    have h2 := hp b hb
    unfold isPlace at h1 h2
    omega
  have h3 : ∀ x ∈ out.map Int.toNat, x ∈ List.range n := by
    intro x hx
    simp at hx
    obtain ⟨a, ha, rfl⟩ := hx
    have := hp a ha
    unfold isPlace at this
    simp; omega
  have := nodup_sub _ _ h2 h3
  simpa using this
theorem nodup_all {n : Nat} {out : List Int} (h : out.Nodup) (hp : ∀ x ∈ out, isPlace n x) (hn : n ≤ out.length) (x : Nat) (hx : x < n) : (x : Int) ∈ out := by
  refine Classical.byContradiction fun hno => ?_
  have := nodup_len (n := n) (out := (x : Int) :: out) (List.nodup_cons.2 ⟨hno, h⟩) (by
    intro y hy
    rcases List.mem_cons.1 hy with rfl | hy
    · unfold isPlace; omega
    · exact hp y hy)
  simp at this; omega
theorem IsOrder.acyc {l : List Node} {out : List Int} (h : IsOrder l out) (hl : l.length ≤ out.length) : Acyc l := by
  intro x hx hc
  have hall := nodup_all h.nodup h.place hl
  -- the first place of each
  obtain ⟨i, hi, he⟩ := List.getElem_of_mem (hall x hx)
  have key : ∀ y, Reach l (kidsAt l x) y → y ∈ out.take i := by
    intro y hy
    refine Reach.closed (S := fun y => y ∈ out.take i) ?_ ?_ hy
    · intro k hk
      exact h.topo i hi k (by rw [he]; simpa using hk)
    · intro z hz k hk
      obtain ⟨j, hj, hjz⟩ := List.getElem_of_mem hz
      rw [List.length_take] at hj
      rw [List.getElem_take] at hjz
      have := h.topo j (by omega) k (by rw [hjz]; exact hk)
      have hsub : out.take j = (out.take i).take j := by rw [List.take_take, Nat.min_eq_left (by omega)]
      rw [hsub] at this
      exact List.mem_of_mem_take this
  have hx' := key x hc
  obtain ⟨j, hj, hjx⟩ := List.getElem_of_mem hx'
  rw [List.length_take] at hj
  rw [List.getElem_take] at hjx
  have := (List.nodup_iff_pairwise_ne.1 h.nodup)
  have hne := List.pairwise_iff_getElem.1 this j i (by omega) hi (by omega)
  exact hne (hjx.trans he.symm)
theorem IsOrder.all {l : List Node} {out : List Int} (h : IsOrder l out) (hr : Refs l) (ha : Acyc l) (x : Nat) (hx : x < l.length) : (x : Int) ∈ out := by
  have : ∀ r x, rank l x < r → x < l.length → (x : Int) ∈ out := by
    intro r
    induction r with
    | zero => intro x h; omega
    | succ r ih =>
      intro x hxr hx
      refine Classical.byContradiction fun hno => ?_
      obtain ⟨k, hk, hko⟩ := h.full x hx hno
      have hp := hr.at_ hk
      unfold isPlace at hp
      have := ih k.toNat (by have := rank_lt hr ha hx hk; omega) (by omega)
      rw [show ((k.toNat : Nat) : Int) = k from by omega] at this
      exact hko this
  exact this _ x (Nat.lt_succ_self _) hx
theorem nodup_range (n : Nat) : ((List.range n).map (fun (x : Nat) => (x : Int))).Nodup := by
  rw [List.Nodup, List.pairwise_map]
  exact List.nodup_range.imp fun h => by omega
theorem IsOrder.len {l : List Node} {out : List Int} (h : IsOrder l out) (hr : Refs l) (ha : Acyc l) : out.length = l.length := by
  have h1 := nodup_len h.nodup h.place
  have h2 : ∀ y ∈ (List.range l.length).map fun (x : Nat) => (x : Int), y ∈ out := by
    intro y hy
    simp at hy
    obtain ⟨x, hx, rfl⟩ := hy
    exact h.all hr ha x hx
  have := nodup_sub _ _ (nodup_range l.length) h2
  simp at this
  omega
theorem IsOrder.iff {l : List Node} {out : List Int} (h : IsOrder l out) (hr : Refs l) : l.length ≤ out.length ↔ Acyc l :=
  ⟨h.acyc, fun ha => by rw [h.len hr ha]; omega⟩
/-- The first place below n of a property, from one on. -/
noncomputable def firstAt (p : Nat → Prop) : Nat → Nat → Option Nat
  | _, 0 => none
  | i, k + 1 => if p i then some i else firstAt p (i + 1) k
end Go.Proofs.YtdejljgoebcmpaaDoor.Pl
/- Plain: what is wrong with how nodes lead to each other; how deep; how much text. No program in sight. -/
namespace Go.Proofs.YtdejljgoebcmpaaDoor.Pl
section
open Classical
/-- No place of n nodes. -/
def noPlace (n : Nat) (k : Int) : Bool := decide (k < 0 ∨ (n : Int) ≤ k)
def idxNo (n : Nat) : List Int → Nat → Int
  | [], _ => -1
  | k :: l, i => if noPlace n k then (i : Int) else idxNo n l (i + 1)
theorem idxNo_cons (n : Nat) (k : Int) (l : List Int) (i : Nat) : idxNo n (k :: l) i = if noPlace n k then (i : Int) else idxNo n l (i + 1) := rfl
/-- The first node one of whose kids is no place. -/
def idxRef (n : Nat) : List Node → Nat → Int
  | [], _ => -1
  | x :: l, i => if decide (0 ≤ idxNo n x.kids 0) then (i : Int) else idxRef n l (i + 1)
theorem idxRef_cons (n : Nat) (x : Node) (l : List Node) (i : Nat) : idxRef n (x :: l) i = if decide (0 ≤ idxNo n x.kids 0) then (i : Int) else idxRef n l (i + 1) := rfl
theorem idxNo_iff (n : Nat) (l : List Int) (i : Nat) : 0 ≤ idxNo n l i ↔ ∃ k ∈ l, ¬ isPlace n k := by
  induction l generalizing i with
  | nil => simp [idxNo]
  | cons k l ih =>
    rw [idxNo_cons]
    by_cases h : noPlace n k = true
    · rw [if_pos h]
      have : ¬ isPlace n k := by unfold noPlace at h; have := of_decide_eq_true h; unfold isPlace; omega
      exact ⟨fun _ => ⟨k, by simp, this⟩, fun _ => by omega⟩
    · rw [if_neg h, ih]
      have : isPlace n k := by
        unfold noPlace at h
        have := of_decide_eq_false (Bool.eq_false_iff.2 h)
        unfold isPlace; omega
      constructor
      · rintro ⟨x, hx, h2⟩; exact ⟨x, List.mem_cons_of_mem _ hx, h2⟩
      · rintro ⟨x, hx, h2⟩
        rcases List.mem_cons.1 hx with rfl | hx
        · exact absurd this h2
        · exact ⟨x, hx, h2⟩
theorem idxRef_neg (n : Nat) (l : List Node) (i : Nat) (h : idxRef n l i < 0) : ∀ x ∈ l, ∀ k ∈ x.kids, isPlace n k := by
  induction l generalizing i with
  | nil => simp
  | cons x l ih =>
    rw [idxRef_cons] at h
    by_cases h1 : 0 ≤ idxNo n x.kids 0
    · rw [if_pos (by simpa using h1)] at h; omega
    · rw [if_neg (by simpa using h1)] at h
      intro y hy k hk
      rcases List.mem_cons.1 hy with rfl | hy
      · refine Classical.byContradiction fun h2 => h1 ((idxNo_iff n _ 0).2 ⟨k, hk, h2⟩)
      · exact ih _ h y hy k hk
theorem idxRef_pos (n : Nat) (l : List Node) (i : Nat) (h : 0 ≤ idxRef n l i) : ∃ x ∈ l, ∃ k ∈ x.kids, ¬ isPlace n k := by
  induction l generalizing i with
  | nil => simp [idxRef] at h
  | cons x l ih =>
    rw [idxRef_cons] at h
    by_cases h1 : 0 ≤ idxNo n x.kids 0
    · obtain ⟨k, hk, h2⟩ := (idxNo_iff n _ 0).1 h1
      exact ⟨x, by simp, k, hk, h2⟩
    · rw [if_neg (by simpa using h1)] at h
      obtain ⟨y, hy, h2⟩ := ih _ h
      exact ⟨y, List.mem_cons_of_mem _ hy, h2⟩
theorem idxRef_refs (l : List Node) : idxRef l.length l 0 < 0 ↔ Refs l := by
  constructor
  · exact idxRef_neg _ _ _
  · intro h
    refine Classical.byContradiction fun h2 => ?_
    obtain ⟨x, hx, k, hk, h3⟩ := idxRef_pos _ _ _ (by omega : 0 ≤ idxRef l.length l 0)
    exact h3 (h x hx k hk)

theorem firstAt_none {p : Nat → Prop} {i k : Nat} : firstAt p i k = none ↔ ∀ j, i ≤ j → j < i + k → ¬ p j := by
  induction k generalizing i with
  | zero => simp [firstAt]; omega
  | succ k ih =>
    unfold firstAt
    by_cases h : p i
    · rw [if_pos h]; simp; exact ⟨i, by omega, by omega, h⟩
    · rw [if_neg h, ih]
      constructor
      · intro h2 j h3 h4
        by_cases e : j = i
        · subst e; exact h
        · exact h2 j (by omega) (by omega)
      · intro h2 j h3 h4; exact h2 j (by omega) (by omega)
theorem firstAt_step {p : Nat → Prop} {i k : Nat} (h : ¬ p i) : firstAt p i (k + 1) = firstAt p (i + 1) k := by
  conv => lhs; unfold firstAt
  rw [if_neg h]
theorem firstAt_hit {p : Nat → Prop} {i k : Nat} (h : p i) : firstAt p i (k + 1) = some i := by unfold firstAt; rw [if_pos h]

theorem firstAt_skip {p : Nat → Prop} {i m k : Nat} (h : ∀ j, i ≤ j → j < i + m → ¬ p j) : firstAt p i (m + k) = firstAt p (i + m) k := by
  induction m generalizing i with
  | zero => simp
  | succ m ih =>
    rw [show m + 1 + k = (m + k) + 1 from by omega, firstAt_step (h i (by omega) (by omega)), ih (fun j h1 h2 => h j (by omega) (by omega))]
    congr 1; omega
/-- What is wrong, and at which. -/
noncomputable def gCheck (l : List Node) (root : Int) : Int × Int :=
  if ¬ isPlace l.length root then (13, -1)
  else if 0 ≤ idxRef l.length l 0 then (13, idxRef l.length l 0)
  else match firstAt (Cyc l) 0 l.length with
    | some i => (14, i)
    | none => match firstAt (fun i => ¬ Reach l [root] i) 0 l.length with
      | some i => (15, i)
      | none => (0, 0)
/-- Nothing is wrong. -/
structure Right (l : List Node) (ro : Int) : Prop where
  root : isPlace l.length ro
  refs : Refs l
  acyc : Acyc l
  all : ∀ x, x < l.length → Reach l [ro] x
theorem gCheck_ok {l : List Node} {root : Int} : (gCheck l root).1 = 0 ↔ Right l root := by
  unfold gCheck
  by_cases h1 : isPlace l.length root
  · rw [if_neg (by simpa using h1)]
    by_cases h2 : 0 ≤ idxRef l.length l 0
    · rw [if_pos h2]
      constructor
      · intro h; simp at h
      · intro h; have := (idxRef_refs l).2 h.refs; omega
    · rw [if_neg h2]
      have hr := (idxRef_refs l).1 (by omega)
      cases h3 : firstAt (Cyc l) 0 l.length with
      | some i =>
        constructor
        · intro h; simp at h
        · intro h
          have : firstAt (Cyc l) 0 l.length = none := firstAt_none.2 fun j _ hj => h.acyc j (by omega)
          rw [this] at h3; cases h3
      | none =>
        have ha : Acyc l := fun x hx => firstAt_none.1 h3 x (by omega) (by omega)
        simp only
        cases h4 : firstAt (fun i => ¬ Reach l [root] i) 0 l.length with
        | some i =>
          constructor
          · intro h; simp at h
          · intro h
            have : firstAt (fun i => ¬ Reach l [root] (i : Int)) 0 l.length = none := firstAt_none.2 fun j _ hj hn => hn (h.all j (by omega))
            rw [this] at h4; cases h4
        | none =>
          refine ⟨fun _ => ⟨h1, hr, ha, fun x hx => ?_⟩, fun _ => rfl⟩
          have := firstAt_none.1 h4 x (by omega) (by omega)
          exact Classical.byContradiction this
  · rw [if_pos h1]
    constructor
    · intro h; simp at h
    · intro h; exact absurd h.root h1
theorem gCheck_zero {l : List Node} {root : Int} (h : (gCheck l root).1 = 0) : gCheck l root = (0, 0) := by
  unfold gCheck at *
  split at h
  · simp at h
  · rename_i h1
    rw [if_neg h1]
    split at h
    · simp at h
    · rename_i h2
      rw [if_neg h2]
      split at h
      · simp at h
      · rename_i h3
        split at h
        · simp at h
        · rename_i h4
          first | rfl | (rw [h3]; simp only; rw [h4])
noncomputable def depthOf (l : List Node) (root : Int) : Nat :=
  if (gCheck l root).1 = 0 then (if h : ∃ d, IsDepth l d then Classical.choose h root.toNat else 0) else 0
theorem depthOf_right {l : List Node} {root : Int} (h : Right l root) {d : Nat → Nat} (hd : IsDepth l d) : depthOf l root = d root.toNat := by
  unfold depthOf
  rw [if_pos (gCheck_ok.2 h)]
  have he : ∃ d, IsDepth l d := ⟨d, hd⟩
  rw [dif_pos he]
  have hp := h.root
  unfold isPlace at hp
  exact depth_unique h.refs h.acyc (Classical.choose_spec he) hd _ (by omega)
theorem depthOf_wrong {l : List Node} {root : Int} (h : (gCheck l root).1 ≠ 0) : depthOf l root = 0 := by unfold depthOf; rw [if_neg h]
end

def edges (l : List Node) : Nat := l.foldr (fun n m => n.kids.length + m) 0
theorem edges_cons (n : Node) (l : List Node) : edges (n :: l) = n.kids.length + edges l := rfl
theorem edges_append (l m : List Node) : edges (l ++ m) = edges l + edges m := by
  induction l with
  | nil => simp [edges]
  | cons a l ih => rw [List.cons_append, edges_cons, edges_cons, ih]; omega
open Classical in
/-- The texts' bytes, each text once, but for those that were met. -/
noncomputable def textSum : List ByteArray → List ByteArray → Nat
  | [], _ => 0
  | t :: l, met => if t ∈ met then textSum l met else t.size + textSum l (t :: met)
open Classical in
theorem textSum_cons (t : ByteArray) (l met : List ByteArray) : textSum (t :: l) met = if t ∈ met then textSum l met else t.size + textSum l (t :: met) := rfl
def textsOf (l : List Node) : List ByteArray := l.flatMap (·.texts)
end Go.Proofs.YtdejljgoebcmpaaDoor.Pl
/- Nodes and scenes that are read; graph.Edges. -/
namespace Go.Proofs.YtdejljgoebcmpaaDoor
open Go.RowKit

/-- A node that is read, at a place. -/
def RNode (w : World) (a : Addr) (n : Pl.Node) : Prop :=
  ∃ vi vt vk, w.cell? a = some (.int .i64 n.kind) ∧ w.cell? ⟨a.block, a.off + 1, none⟩ = some vi ∧ w.cell? ⟨a.block, a.off + 2, none⟩ = some vt ∧ w.cell? ⟨a.block, a.off + 3, none⟩ = some vk ∧
    RNums w vi n.ints ∧ RStrs w vt n.texts ∧ RNums w vk n.kids
theorem RNode.below {w w' : World} {a : Addr} {n : Pl.Node} (h : RNode w a n) (hb : Below w.heap.size w w') : RNode w' a n := by
  obtain ⟨vi, vt, vk, h0, h1, h2, h3, hi, ht, hk⟩ := h
  exact ⟨vi, vt, vk, (hb.cell (World.block_lt_of_cell? w _ h0)).trans h0, (hb.cell (World.block_lt_of_cell? w _ h1)).trans h1, (hb.cell (World.block_lt_of_cell? w _ h2)).trans h2,
    (hb.cell (World.block_lt_of_cell? w _ h3)).trans h3, hi.below hb, ht.below hb, hk.below hb⟩
/-- A row of nodes that is read. -/
def RNodes (w : World) (v : Value) (l : List Pl.Node) : Prop := ∃ A c, v = .slice A l.length c ∧ (0 < l.length → ∃ ad, A = some ad ∧ ∀ j (h : j < l.length), RNode w (ad.add (j * 4)) l[j])
theorem RNodes.below {w w' : World} {v : Value} {l : List Pl.Node} (h : RNodes w v l) (hb : Below w.heap.size w w') : RNodes w' v l := by
  obtain ⟨A, c, rfl, h⟩ := h
  refine ⟨A, c, rfl, fun hl => ?_⟩
  obtain ⟨ad, e, hc⟩ := h hl
  exact ⟨ad, e, fun j hj => (hc j hj).below hb⟩

theorem edges_take (l : List Pl.Node) (k : Nat) (h : k < l.length) : Pl.edges (l.take (k + 1)) = Pl.edges (l.take k) + l[k].kids.length := by
  induction l generalizing k with
  | nil => simp at h
  | cons n l ih =>
    cases k with
    | zero => simp [Pl.edges]
    | succ k =>
      simp only [List.take_succ_cons, Pl.edges_cons, List.getElem_cons_succ]
      rw [ih k (by simpa using h)]; omega
theorem edges_le (l : List Pl.Node) (k B : Nat) (h : ∀ n ∈ l, n.kids.length ≤ B) : Pl.edges (l.take k) ≤ k * B := by
  induction l generalizing k with
  | nil => simp [Pl.edges]
  | cons n l ih =>
    cases k with
    | zero => simp [Pl.edges]
    | succ k =>
      simp only [List.take_succ_cons, Pl.edges_cons]
      have h1 := ih k (fun n hn => h n (List.mem_cons_of_mem _ hn))
      have h2 := h n (List.mem_cons_self ..)
      rw [Nat.succ_mul]; omega

set_option maxHeartbeats 1000000 in
set_option maxRecDepth 100000 in
theorem gr_edges (v : Value) (root : Int) (l : List Pl.Node) (w : World) (hv : RNodes w v l) (hl : l.length ≤ 16777216) (hk : ∀ n ∈ l, n.kids.length ≤ 16777216) :
    Calls Tryd.prog 54 #[.agg #[v, .int .i64 root]] w fun en w' => en = .returned (.int .i64 (Pl.edges l)) ∧ Below w.heap.size w w' := by
  obtain ⟨A, c, rfl, hA⟩ := hv
  have HA := Lib.hid hA
  have HK := Lib.hid hk
  clear hA hk
  go_enter Tryd.func54, Tryd.ntmps54
  go_wp2_with fail
  go_loopw [3, 9] (fun s i wr => ∃ k : Nat, k ≤ l.length ∧ i = .int .i64 k ∧ s = .int .i64 (Pl.edges (l.take k) : Nat) ∧ Below w.heap.size w wr) (fun _ i _ => l.length - (intOf i).toNat)
  case atStart => exact ⟨0, by omega, rfl, rfl, (Below.refl _ _).alloc (Nat.le_refl _) _⟩
  case round =>
    obtain ⟨k, hkl, rfl, rfl, hb⟩ := hrel
    by_cases hlt : k < l.length
    · obtain ⟨ad, hAe, hc⟩ := HA.out (by omega)
      subst hAe
      obtain ⟨vi, vt, vk, h0, h1, h2, h3, hi, ht, hkk⟩ := (hc k hlt)
      replace h0 := (hb.cell (World.block_lt_of_cell? w _ h0)).trans h0
      replace h1 := (hb.cell (World.block_lt_of_cell? w _ h1)).trans h1
      replace h2 := (hb.cell (World.block_lt_of_cell? w _ h2)).trans h2
      replace h3 := (hb.cell (World.block_lt_of_cell? w _ h3)).trans h3
      have tl : decide ((k : Int) < l.length) = true := decide_eq_true (by omega)
      have hE := edges_take l k hlt
      have hle := edges_le l k 16777216 HK.out
      have hn := HK.out _ (List.getElem_mem hlt)
      obtain ⟨VA, vc, rfl, _⟩ := hkk
      obtain ⟨TA, tc, rfl, _⟩ := ht
      obtain ⟨IA, ic, rfl, _⟩ := hi
      have hmul : k * 16777216 ≤ 16777216 * 16777216 := Nat.mul_le_mul_right _ (by omega)
      clear hc
      generalize l[k] = x at *
      have HE := Lib.hid hE
      clear hE
      generalize Pl.edges (l.take k) = S at *
      go_wp2_with fail
      go_roundw
      case rel => exact ⟨k + 1, by omega, by go_num, by rw [HE.out]; go_num, hb.alloc hb.size _⟩
      case measure => simp only [intOf]; omega
    · obtain rfl : k = l.length := by omega
      rw [List.take_length]
      go_wp2_with fail
      go_ret
      exact ⟨rfl, hb⟩
end Go.Proofs.YtdejljgoebcmpaaDoor
/- graph.refs. -/
namespace Go.Proofs.YtdejljgoebcmpaaDoor
open Go.RowKit

set_option maxRecDepth 100000 in
theorem refs_11 (g n c : Nat) (A : Option Addr) (k : Int) (w : World) (hg : w.cell? ⟨g, 0, none⟩ = some (.slice A n c)) :
    Calls Tryd.prog 73 #[.int .i64 k, .pointer (some ⟨g, 0, none⟩)] w fun en w' => en = .returned (.bool (Pl.noPlace n k)) ∧ w = w' := by
  by_cases h1 : k < 0
  · have t1 : decide (k < 0) = true := decide_eq_true h1
    have HV : Hid (Pl.noPlace n k = true) := decide_eq_true (.inl h1)
    go_enter Tryd.func73, Tryd.ntmps73
    go_wp2_with fail
    go_ret
    exact ⟨ret_bool HV.out.symm, rfl⟩
  · have t1 : decide (k < 0) = false := decide_eq_false h1
    have HV : Hid (Pl.noPlace n k = decide ((n : Int) ≤ k)) := by unfold Hid Pl.noPlace; simp [h1]
    go_enter Tryd.func73, Tryd.ntmps73
    go_wp2_with fail
    go_ret
    exact ⟨ret_bool HV.out.symm, rfl⟩

set_option maxHeartbeats 1000000 in
set_option maxRecDepth 100000 in
theorem refs_idx (g n c : Nat) (A : Option Addr) (v : Value) (l : List Int) (w : World) (hg : w.cell? ⟨g, 0, none⟩ = some (.slice A n c)) (hv : RNums w v l) (hl : l.length ≤ 140737488355328) :
    Calls Tryd.prog 83 #[v, .func (.func 73) #[] #[.pointer (some ⟨g, 0, none⟩)]] w fun en w' => en = .returned (.int .i64 (Pl.idxNo n l 0)) ∧ w = w' := by
  obtain ⟨B, c1, rfl, hA⟩ := hv
  have HA := Lib.hid hA
  have HG := Lib.hid hg
  clear hA hg
  go_enter Tryd.func83, Tryd.ntmps83
  go_wp2_with fail
  go_loopw [8] (fun i wr => ∃ k : Nat, k ≤ l.length ∧ i = .int .i64 k ∧ Hid (Pl.idxNo n (l.drop k) k = Pl.idxNo n l 0) ∧ w = wr) (fun i _ => l.length - (intOf i).toNat)
  case atStart => exact ⟨0, by omega, rfl, rfl, rfl⟩
  case round =>
    obtain ⟨k, hk, rfl, hO, rfl⟩ := hrel
    by_cases hlt : k < l.length
    · obtain ⟨ad, hAe, hca⟩ := HA.out (by omega)
      subst hAe
      have ea := hca k hlt
      have tl : decide ((k : Int) < l.length) = true := decide_eq_true (by omega)
      have hd : Hid (l.drop k = l[k] :: l.drop (k + 1)) := List.drop_eq_getElem_cons hlt
      clear hca
      generalize l[k] = x at *
      have HC := Lib.hid (refs_11 g n c A x w HG.out)
      go_wp2_with fail
      refine HC.out.mono ?_
      rintro en w1 ⟨rfl, rfl⟩
      have hO2 := hO.out
      rw [hd.out, Pl.idxNo_cons] at hO2
      clear HC
      by_cases hin : Pl.noPlace n x = true
      · rw [hin]
        rw [if_pos hin] at hO2
        have HV := Lib.hid hO2
        clear hO2
        go_wp2_with fail
        go_ret
        exact ⟨ret_int HV.out, rfl⟩
      · have hin' : Pl.noPlace n x = false := by simpa using hin
        rw [hin']
        rw [if_neg hin] at hO2
        have HV := Lib.hid hO2
        clear hO2
        go_wp2_with fail
        go_roundw
        case rel => exact ⟨k + 1, by omega, by go_num, HV, by first | trivial | rfl⟩
        case measure => simp [intOf]; omega
    · obtain rfl : k = l.length := by omega
      have HV : Hid (Pl.idxNo n l 0 = -1) := by have := hO.out; rw [List.drop_length] at this; exact this.symm
      clear hO
      go_wp2_with fail
      go_ret
      exact ⟨ret_int HV.out.symm, rfl⟩

set_option maxRecDepth 100000 in
theorem refs_has (g n c : Nat) (A : Option Addr) (v : Value) (l : List Int) (w : World) (hg : w.cell? ⟨g, 0, none⟩ = some (.slice A n c)) (hv : RNums w v l) (hl : l.length ≤ 140737488355328) :
    Calls Tryd.prog 72 #[v, .func (.func 73) #[] #[.pointer (some ⟨g, 0, none⟩)]] w fun en w' => en = .returned (.bool (decide (0 ≤ Pl.idxNo n l 0))) ∧ w = w' := by
  have H := Lib.hid (refs_idx g n c A v l w hg hv hl)
  clear hg hv
  go_enter Tryd.func72, Tryd.ntmps72
  go_wp2_with fail
  refine H.out.mono ?_
  rintro en w1 ⟨rfl, rfl⟩
  go_wp2_with fail
  go_ret
  exact ⟨rfl, rfl⟩

set_option maxRecDepth 100000 in
theorem refs_1 (g n c : Nat) (A : Option Addr) (kind : Int) (vi vt v : Value) (l : List Int) (w : World) (hg : w.cell? ⟨g, 0, none⟩ = some (.slice A n c)) (hv : RNums w v l) (hl : l.length ≤ 140737488355328) :
    Calls Tryd.prog 71 #[.agg #[.int .i64 kind, vi, vt, v], .pointer (some ⟨g, 0, none⟩)] w fun en w' => en = .returned (.bool (decide (0 ≤ Pl.idxNo n l 0))) ∧ Below w.heap.size w w' := by
  have hB0 : Below w.heap.size w (w.alloc (.cells #[.int .i64 kind, vi, vt, v] 43)) := (Below.refl _ _).alloc (Nat.le_refl _) _
  have H := Lib.hid (refs_has g n c A v l _ ((hB0.cell (p := ⟨g, 0, none⟩) (World.block_lt_of_cell? w _ hg)).trans hg) (hv.below hB0) hl)
  have HB := Lib.hid hB0
  obtain ⟨B, c1, rfl, _⟩ := hv
  clear hg hB0
  go_enter Tryd.func71, Tryd.ntmps71
  go_wp2_with fail
  refine H.out.mono ?_
  rintro en w1 ⟨rfl, rfl⟩
  go_wp2_with fail
  go_ret
  exact ⟨rfl, HB.out⟩

set_option maxHeartbeats 1000000 in
set_option maxRecDepth 100000 in
theorem refs_nodes (g n c : Nat) (A : Option Addr) (v : Value) (l : List Pl.Node) (w : World) (hg : w.cell? ⟨g, 0, none⟩ = some (.slice A n c)) (hv : RNodes w v l) (hl : l.length ≤ 16777216) (hk : ∀ x ∈ l, x.kids.length ≤ 16777216) :
    Calls Tryd.prog 70 #[v, .func (.func 71) #[] #[.pointer (some ⟨g, 0, none⟩)]] w fun en w' => en = .returned (.int .i64 (Pl.idxRef n l 0)) ∧ Below w.heap.size w w' := by
  obtain ⟨B, c1, rfl, hA⟩ := hv
  have HA := Lib.hid hA
  have HG := Lib.hid hg
  have HK := Lib.hid hk
  clear hA hg hk
  go_enter Tryd.func70, Tryd.ntmps70
  go_wp2_with fail
  go_loopw [8] (fun i wr => ∃ k : Nat, k ≤ l.length ∧ i = .int .i64 k ∧ Hid (Pl.idxRef n (l.drop k) k = Pl.idxRef n l 0) ∧ Below w.heap.size w wr) (fun i _ => l.length - (intOf i).toNat)
  case atStart => exact ⟨0, by omega, rfl, rfl, Below.refl _ _⟩
  case round =>
    obtain ⟨k, hkl, rfl, hO, hb⟩ := hrel
    by_cases hlt : k < l.length
    · obtain ⟨ad, hAe, hca⟩ := HA.out (by omega)
      subst hAe
      obtain ⟨vi, vt, vk, h0, h1, h2, h3, hi, ht, hkk⟩ := ((hca k hlt).below hb)
      have tl : decide ((k : Int) < l.length) = true := decide_eq_true (by omega)
      have hd : Hid (l.drop k = l[k] :: l.drop (k + 1)) := List.drop_eq_getElem_cons hlt
      have hn := HK.out _ (List.getElem_mem hlt)
      clear hca
      generalize l[k] = x at *
      have HC := Lib.hid (refs_1 g n c A x.kind vi vt vk x.kids wr ((hb.cell (p := ⟨g, 0, none⟩) (World.block_lt_of_cell? w _ HG.out)).trans HG.out) hkk (by omega))
      obtain ⟨VA, vc, rfl, _⟩ := hkk
      obtain ⟨TA, tc, rfl, _⟩ := ht
      obtain ⟨IA, ic, rfl, _⟩ := hi
      go_wp2_with fail
      refine HC.out.mono ?_
      rintro en w1 ⟨rfl, hb1⟩
      have hb2 : Below w.heap.size w w1 := hb.trans (hb1.mono hb.size)
      have hO2 := hO.out
      rw [hd.out, Pl.idxRef_cons] at hO2
      clear HC hb1
      generalize decide (0 ≤ Pl.idxNo n x.kids 0) = q at *
      cases q
      · have HV : Hid (Pl.idxRef n (l.drop (k + 1)) (k + 1) = Pl.idxRef n l 0) := by unfold Hid; simpa using hO2
        clear hO2
        go_wp2_with fail
        go_roundw
        case rel => exact ⟨k + 1, by omega, by go_num, HV, hb2⟩
        case measure => simp [intOf]; omega
      · have HV : Hid ((k : Int) = Pl.idxRef n l 0) := by unfold Hid; simpa using hO2
        clear hO2
        go_wp2_with fail
        go_ret
        exact ⟨ret_int HV.out, hb2⟩
    · obtain rfl : k = l.length := by omega
      have HV : Hid (Pl.idxRef n l 0 = -1) := by have := hO.out; rw [List.drop_length] at this; exact this.symm
      clear hO
      go_wp2_with fail
      go_ret
      exact ⟨ret_int HV.out.symm, hb⟩

set_option maxRecDepth 100000 in
theorem gr_refs (v : Value) (root : Int) (l : List Pl.Node) (w : World) (hv : RNodes w v l) (hl : l.length ≤ 16777216) (hk : ∀ x ∈ l, x.kids.length ≤ 16777216) :
    Calls Tryd.prog 49 #[.agg #[v, .int .i64 root]] w fun en w' => en = .returned (.int .i64 (Pl.idxRef l.length l 0)) ∧ Below w.heap.size w w' := by
  have hB0 : Below w.heap.size w (w.alloc (.cells #[v, .int .i64 root] 24)) := (Below.refl _ _).alloc (Nat.le_refl _) _
  have hv2 := hv.below hB0
  obtain ⟨A, c, rfl, _⟩ := hv
  have H := Lib.hid (refs_nodes w.heap.size l.length c A _ l _ (by rw [cell_row (heap_alloc_new w _)]; rfl) hv2 hl hk)
  have HB := Lib.hid hB0
  clear hv2 hB0 hk
  go_enter Tryd.func49, Tryd.ntmps49
  go_wp2_with fail
  refine H.out.mono ?_
  rintro en w1 ⟨rfl, hb1⟩
  have hB := HB.out.trans (hb1.mono (by simp))
  clear H hb1
  go_wp2_with fail
  go_ret
  exact ⟨rfl, hB⟩
end Go.Proofs.YtdejljgoebcmpaaDoor
/- A map[int]bool of the call's own, as a list of the numbers that are in it. -/
namespace Go.Proofs.YtdejljgoebcmpaaDoor
open Go.RowKit Go.Maps

def i64ok (k : Int) : Prop := -9223372036854775808 ≤ k ∧ k ≤ 9223372036854775807
/-- Block b is a map, of at most n entries, of just these numbers to true. -/
def MetAt (w : World) (b n : Nat) (met : List Int) : Prop :=
  ∃ D : DataW Unit, w.ownsMap Tryd.prog 3 (plainElem Tryd.prog 4) b n D ∧ ∀ k, i64ok k → D.atKey (.int .i64 k) (.lit (.bool false)) = .lit (.bool (decide (k ∈ met)))
theorem metKey {k : Int} (h : i64ok k) : keyOf Tryd.prog 3 (.int .i64 k) = some (.int .i64 k) := keyOf_int_mk Tryd.underlying3 (by have e1 : IntKind.i64.min = -9223372036854775808 := rfl; have e2 : IntKind.i64.max = 9223372036854775807 := rfl; unfold Lit.wf; simp [i64ok] at h ⊢; omega)
theorem MetAt.made (w : World) : MetAt (w.alloc (.map #[] 0)) w.heap.size 0 [] := ⟨_, World.ownsMap_made w _ _ _, fun k _ => by simp [WideAt.atKey_none]⟩
theorem MetAt.lt {w : World} {b n : Nat} {met : List Int} (h : MetAt w b n met) : b < w.heap.size := by obtain ⟨D, h, _⟩ := h; exact h.lt
theorem MetAt.block {w w' : World} {b n : Nat} {met : List Int} (h : MetAt w b n met) (hb : w'.heap[b]? = w.heap[b]?) : MetAt w' b n met := by
  obtain ⟨D, ⟨es, clock, h1, h2⟩, h3⟩ := h
  exact ⟨D, ⟨es, clock, hb.trans h1, h2⟩, h3⟩
set_option maxRecDepth 100000 in
theorem metZero (w : World) : (zeroValue 4).run Tryd.prog w = .ok (.bool false) w := by kernel_rfl
set_option maxRecDepth 100000 in
theorem MetAt.look {w : World} {b n : Nat} {met : List Int} (h : MetAt w b n met) {k : Int} (hk : i64ok k) :
    (Instr.lookup 94 (.map (some b)) (.int .i64 k) false).run Tryd.prog w = .ok (.bool (decide (k ∈ met))) w := by
  obtain ⟨D, h1, h2⟩ := h
  obtain ⟨v, ps, hr, hv⟩ := h1.lookup (int_keyed Tryd.underlying3) Tryd.underlying94 (metZero w) (plainElem_bool Tryd.underlying4 false) (metKey hk)
  rw [h2 k hk] at hv
  rw [hr]
  congr 1
  unfold plainElem at hv
  rw [Tryd.underlying4] at hv
  cases v <;> simp at hv
  rw [hv.1]

theorem met_put {P : Program} {ops : Array Oper} {rest : List Oper} {o : Oper} {a : Act} {Q : Exit → Act → World → Prop} {w : World} (hP : P = Tryd.prog)
    (hg : o.guard = none) (m x v : Operand) (hop : o.op = Op.mapUpdate 94 m x v) {b n : Nat} {met : List Int} (h : MetAt w b n met) (hn : n < 1000000000) {k : Int} (hk : i64ok k)
    (hm : a.eval m = .map (some b)) (hx : a.eval x = .int .i64 k) (hv : a.eval v = .bool true)
    (hK : ∀ w', MetAt w' b (n + 1) (k :: met) → w.grownBy w' (some b) → wpList P ops Q rest (a.put o.dst undef) w') : wpList P ops Q (o :: rest) a w := by
  subst hP
  obtain ⟨D, h1, h2⟩ := h
  refine wpList_mapUpdate_own w hg m x v 94 hop 3 4 (int_keyed Tryd.underlying3) Tryd.underlying94 (plainElem Tryd.prog 4) b n D hm h1 (by unfold maxLen; omega) (.int .i64 k) (.bool true) (.int .i64 k) hx hv (metKey hk) (.lit (.bool true)) [] (plainElem_bool Tryd.underlying4 true) ?_
  intro w' h3 h4
  refine hK w' ⟨_, h3, fun j hj => ?_⟩ h4
  by_cases e : j = k
  · subst e
    rw [atKey_put_same h1.isMap (by simp [WideAt.IsKeyLit])]; simp
  · rw [atKey_put_other (by intro h; injection h with _ h; exact e h), h2 j hj]; simp [e]
end Go.Proofs.YtdejljgoebcmpaaDoor
/- append of a row that is read, or of new elements, onto a row of the call's own; where it lies then. No program in sight. -/
namespace Go.Proofs.YtdejljgoebcmpaaDoor
open Go.RowKit

theorem run_append_zero {P : Program} {w : World} (base : Nat) (t ty e : TypeId) (i : TypeInfo) (size : Nat) (ht : P.underlying t = some (.slice e)) (hi : P.info? e = some i)
    (v : Value) (n : Nat) (xs : List Value) (hown : w.ownsRow base e size v n xs) (c : Nat) :
    (Builtin.append_ #[t, t] ty #[v, .slice none 0 c]).run P w = .ok v w := by
  rcases hown.2 with ⟨rfl, rfl⟩ | ⟨g, cap, cur, rfl, _, _, hnc, _⟩
  · simp [Builtin.append_, run_underlying ht, sizeOf, typeInfo, hi, Builtin.lenOf, Builtin.firstCells]
  · simp [Builtin.append_, run_underlying ht, sizeOf, typeInfo, hi, Builtin.lenOf, Builtin.firstCells, hnc, storeCells]

theorem app_row {P : Program} {ops : Array Oper} {rest : List Oper} {o : Oper} {a : Act} {Q : Exit → Act → World → Prop} {w : World}
    (s x : Operand) (t e : TypeId) (z : Value) (size bytes : Nat) (ht : P.underlying t = some (.slice e)) (hi : (P.info? e).map (fun i => (i.zero, i.size, i.bytes)) = some (some z, size, bytes)) (hz : z.cells.size = size) (hsz : 0 < size)
    (ho : o.op = .call { callee := .builtin .append, args := #[s, x], argTypes := #[t, t] }) (hgd : o.guard = none)
    {base n : Nat} {v : Value} {xs : List Value} (hs : a.eval s = v) (hown : w.ownsRow base e size v n xs) (hbase : base ≤ w.heap.size)
    {A : Option Addr} {m c : Nat} (news : List Value) (hl : news.length = m * size) (hx : a.eval x = .slice A m c) (hc : 0 < m → ∃ ad, A = some ad ∧ ∀ j u, news[j]? = some u → w.cell? (ad.add j) = some u)
    (h1 : ∀ u ∈ news, u.oneCell' = true) (hb : (n + m) * bytes ≤ 140737488355328) (hb0 : 0 < bytes)
    (h : ∀ v' w', w'.ownsRow base e size v' (n + m) (xs ++ news) → Upd (fun k => v.ownBlock = some k) w w' → (v'.ownBlock = v.ownBlock ∨ v'.ownBlock = some w.heap.size) → wpList P ops Q rest (a.put o.dst v') w') :
    wpList P ops Q (o :: rest) a w := by
  obtain ⟨i, hi', he⟩ := Option.map_eq_some_iff.1 hi
  simp only [Prod.mk.injEq] at he
  obtain ⟨e1, e2, e3⟩ := he
  have h63 : n + m ≤ maxLen := by
    unfold maxLen
    have : n + m ≤ (n + m) * bytes := Nat.le_mul_of_pos_right _ hb0
    omega
  cases A with
  | none =>
    have hm : m = 0 := by
      rcases Nat.eq_zero_or_pos m with h0 | h0
      · exact h0
      · obtain ⟨_, h2, _⟩ := hc h0; cases h2
    subst hm
    have hn : news = [] := List.eq_nil_of_length_eq_zero (by simpa using hl)
    subst hn
    refine wpList_plain hgd fun K hK => ?_
    have hr := run_append_zero (P := P) (w := w) base t o.type e i size ht hi' v n xs hown c
    unfold Oper.wp execOp
    simp only [ho, resolve, invoke, builtin, Sem.run_bind, Sem.run_pure, Result.andThen_ok, List.map_toArray, List.map_cons, List.map_nil, hs, hx, hr]
    exact hK _ _ (h v w (by simpa using hown) (Upd.refl _ _) (.inl rfl))
  | some ad =>
    refine wpList_append_own_at w hgd s x t ho base e i z size bytes ht hi' e1 e2 e3 hz hsz v n xs hs hown ad m c news hx hl ?_ h1 h63 hb hbase ?_
    · intro j u hj
      rcases Nat.eq_zero_or_pos m with h0 | h0
      · subst h0
        have hn : news = [] := List.eq_nil_of_length_eq_zero (by simpa using hl)
        subst hn; simp at hj
      · obtain ⟨ad', h2, h3⟩ := hc h0
        cases h2
        exact h3 j u hj
    · intro v' w' h2 h3 _ h5
      exact h v' w' h2 (Upd.grown h3) h5

/-- append of elements that lie in a new block of the call's own (a buildSlice ahead); where it lies then. -/
theorem app_new_at {P : Program} {ops : Array Oper} {rest : List Oper} {o : Oper} {a : Act} {Q : Exit → Act → World → Prop} {w : World}
    (s x : Operand) (t e : TypeId) (z : Value) (size bytes : Nat) (ht : P.underlying t = some (.slice e)) (hi : (P.info? e).map (fun i => (i.zero, i.size, i.bytes)) = some (some z, size, bytes)) (hz : z.cells.size = size) (hsz : 0 < size)
    (ho : o.op = .call { callee := .builtin .append, args := #[s, x], argTypes := #[t, t] }) (hgd : o.guard = none)
    {base n : Nat} {v : Value} {xs : List Value} (hs : a.eval s = v) (hown : w.ownsRow base e size v n xs) (hbase : base ≤ w.heap.size)
    (news : List Value) (m : Nat) (hl : news.length = m * size) (hx : a.eval x = .slice (some ⟨w.heap.size, 0, none⟩) m m) (h1 : ∀ u ∈ news, u.oneCell' = true) (hb : (n + m) * bytes ≤ 140737488355328) (hb0 : 0 < bytes)
    (h : ∀ v' w', w'.ownsRow base e size v' (n + m) (xs ++ news) → Upd (fun k => v.ownBlock = some k) w w' → (v'.ownBlock = v.ownBlock ∨ v'.ownBlock = some (w.heap.size + 1)) → wpList P ops Q rest (a.put o.dst v') w') :
    wpList P ops Q (o :: rest) a (w.alloc (.cells news.toArray e)) := by
  refine app_row s x t e z size bytes ht hi hz hsz ho hgd hs (own_new hown _) (by simp; omega) news hl hx (fun _ => ⟨_, rfl, ?_⟩) h1 hb hb0 ?_
  · intro j u hj
    have hc : (w.alloc (.cells news.toArray e)).cell? ⟨w.heap.size, j, none⟩ = news[j]? := by
      rw [World.cell?_alloc_at _ _ _ _ rfl]; simp
    rw [show (⟨w.heap.size, 0, none⟩ : Addr).add j = ⟨w.heap.size, j, none⟩ from by unfold Addr.add; split <;> simp_all, hc]; exact hj
  · intro v' w' h2 h3 h5
    refine h v' w' h2 (((Upd.refl _ w).alloc _).after h3 (fun i hi => .inl hi)) ?_
    rcases h5 with h5 | h5
    · exact .inl h5
    · right; rw [h5]; simp

def i64s (l : List Int) : List Value := l.map fun k => .int .i64 k
theorem i64s_append (l m : List Int) : i64s (l ++ m) = i64s l ++ i64s m := by simp [i64s]
theorem i64s_len (l : List Int) : (i64s l).length = l.length := by simp [i64s]
theorem i64s_one (l : List Int) : ∀ u ∈ i64s l, u.oneCell' = true := by
  intro u hu
  simp only [i64s, List.mem_map] at hu
  obtain ⟨k, _, rfl⟩ := hu
  rfl
theorem i64s_get (l : List Int) (j : Nat) (h : j < l.length) : (i64s l)[j]? = some (.int .i64 l[j]) := by simp [i64s, h]
end Go.Proofs.YtdejljgoebcmpaaDoor
/- graph.reach. -/
namespace Go.Proofs.YtdejljgoebcmpaaDoor
open Go.RowKit Go.Maps

namespace Pl
/-- Of all nodes that weren't met, the kids. -/
def unmet (l : List Node) (met : List Int) : Nat := ((List.range l.length).map fun (x : Nat) => if (x : Int) ∈ met then 0 else (kidsAt l x).length).sum
theorem sum_change (L : List Nat) (hn : L.Nodup) (f g : Nat → Nat) (a : Nat) (ha : a ∈ L) (h : ∀ x ∈ L, x ≠ a → g x = f x) : (L.map g).sum + f a = (L.map f).sum + g a := by
  induction L with
  | nil => simp at ha
  | cons x L ih =>
    have hn' := List.nodup_cons.1 hn
    simp only [List.map_cons, List.sum_cons]
    rcases List.mem_cons.1 ha with rfl | ha'
    · have : (L.map g) = L.map f := List.map_congr_left fun y hy => h y (List.mem_cons_of_mem _ hy) (fun e => hn'.1 (e ▸ hy))
      rw [this]; omega
    · have h1 := ih hn'.2 ha' (fun y hy => h y (List.mem_cons_of_mem _ hy))
      have h2 := h x (by simp) (fun e => hn'.1 (e ▸ ha'))
      omega
theorem unmet_cons (l : List Node) (met : List Int) (k : Int) (hp : isPlace l.length k) (hn : k ∉ met) : unmet l (k :: met) + (kidsAt l k.toNat).length = unmet l met := by
  unfold isPlace at hp
  have hk : ((k.toNat : Nat) : Int) = k := by omega
  have := sum_change (List.range l.length) List.nodup_range (fun (x : Nat) => if (x : Int) ∈ met then 0 else (kidsAt l x).length) (fun (x : Nat) => if (x : Int) ∈ k :: met then 0 else (kidsAt l x).length) k.toNat (by simp; omega) (fun x _ hne => by
    have : ((x : Int) ∈ k :: met) ↔ (x : Int) ∈ met := by
      simp only [List.mem_cons]
      constructor
      · rintro (h | h)
        · omega
        · exact h
      · exact .inr
    simp only [this])
  simp only [hk, List.mem_cons, true_or, if_true, hn, if_false] at this
  unfold unmet
  simp only [List.mem_cons]
  omega
theorem unmet_le (l : List Node) (met : List Int) (B : Nat) (h : ∀ x ∈ l, x.kids.length ≤ B) : unmet l met ≤ l.length * B := by
  unfold unmet
  have : ∀ L : List Nat, ((L.map fun (x : Nat) => if (x : Int) ∈ met then 0 else (kidsAt l x).length).sum) ≤ L.length * B := by
    intro L
    induction L with
    | nil => simp
    | cons x L ih =>
      simp only [List.map_cons, List.sum_cons, List.length_cons, Nat.succ_mul]
      have : (if (x : Int) ∈ met then 0 else (kidsAt l x).length) ≤ B := by
        split
        · omega
        · unfold kidsAt
          split
          · rename_i n hn; exact h n (List.mem_of_getElem? hn)
          · simp
      omega
  have := this (List.range l.length)
  simpa using this
/-- What holds ahead of each round. -/
structure RInv (l : List Node) (fr met fs : List Int) : Prop where
  pl : ∀ x ∈ fs, isPlace l.length x
  frm : ∀ x ∈ fs, Reach l fr x
  mpl : ∀ x ∈ met, isPlace l.length x
  nd : met.Nodup
  mt : ∀ x ∈ met, Reach l fr x
  cl : ∀ x ∈ met, ∀ k ∈ kidsAt l x.toNat, k ∈ met ∨ k ∈ fs
  st : ∀ x ∈ fr, x ∈ met ∨ x ∈ fs
theorem RInv.start {l : List Node} {fr : List Int} (hp : ∀ x ∈ fr, isPlace l.length x) : RInv l fr [] fr :=
  ⟨hp, fun _ h => .base h, by simp, by simp, by simp, by simp, fun _ h => .inr h⟩
theorem RInv.skip {l : List Node} {fr met fs : List Int} {k : Int} (h : RInv l fr met (fs ++ [k])) (hm : k ∈ met) : RInv l fr met fs := by
  refine ⟨fun x hx => h.pl x (by simp [hx]), fun x hx => h.frm x (by simp [hx]), h.mpl, h.nd, h.mt, fun x hx y hy => ?_, fun x hx => ?_⟩
  · rcases h.cl x hx y hy with h1 | h1
    · exact .inl h1
    · rcases List.mem_append.1 h1 with h1 | h1
      · exact .inr h1
      · obtain rfl : y = k := by simpa using h1
        exact .inl hm
  · rcases h.st x hx with h1 | h1
    · exact .inl h1
    · rcases List.mem_append.1 h1 with h1 | h1
      · exact .inr h1
      · obtain rfl : x = k := by simpa using h1
        exact .inl hm
theorem RInv.take {l : List Node} {fr met fs : List Int} {k : Int} (hr : Refs l) (h : RInv l fr met (fs ++ [k])) (hm : k ∉ met) : RInv l fr (k :: met) (fs ++ kidsAt l k.toNat) := by
  refine ⟨fun x hx => ?_, fun x hx => ?_, fun x hx => ?_, List.nodup_cons.2 ⟨hm, h.nd⟩, fun x hx => ?_, fun x hx y hy => ?_, fun x hx => ?_⟩
  · rcases List.mem_append.1 hx with h1 | h1
    · exact h.pl x (by simp [h1])
    · exact hr.at_ h1
  · rcases List.mem_append.1 hx with h1 | h1
    · exact h.frm x (by simp [h1])
    · exact .step (h.frm k (by simp)) h1
  · rcases List.mem_cons.1 hx with rfl | h1
    · exact h.pl x (by simp)
    · exact h.mpl x h1
  · rcases List.mem_cons.1 hx with rfl | h1
    · exact h.frm x (by simp)
    · exact h.mt x h1
  · rcases List.mem_cons.1 hx with rfl | h1
    · exact .inr (by simp [hy])
    · rcases h.cl x h1 y hy with h2 | h2
      · exact .inl (by simp [h2])
      · rcases List.mem_append.1 h2 with h2 | h2
        · exact .inr (by simp [h2])
        · obtain rfl : y = k := by simpa using h2
          exact .inl (by simp)
  · rcases h.st x hx with h2 | h2
    · exact .inl (by simp [h2])
    · rcases List.mem_append.1 h2 with h2 | h2
      · exact .inr (by simp [h2])
      · obtain rfl : x = k := by simpa using h2
        exact .inl (by simp)
theorem RInv.done {l : List Node} {fr met : List Int} (h : RInv l fr met []) (k : Int) : k ∈ met ↔ Reach l fr k :=
  ⟨h.mt k, fun hk => Reach.closed (S := fun x => x ∈ met) (fun x hx => by simpa using h.st x hx) (fun x hx y hy => by simpa using h.cl x hx y hy) hk⟩
/-- Not too great. -/
structure Sm (l : List Node) : Prop where
  len : l.length ≤ 1048576
  ints : ∀ n ∈ l, n.ints.length ≤ 1048576
  texts : ∀ n ∈ l, n.texts.length ≤ 1048576
  kids : ∀ n ∈ l, n.kids.length ≤ 1048576
  size : ∀ n ∈ l, ∀ t ∈ n.texts, t.size ≤ 1048576
end Pl
set_option maxRecDepth 100000 in
theorem infoInt : (Tryd.prog.info? 3).map (fun i => (i.zero, i.size, i.bytes)) = some (some (.int .i64 0), 1, 8) := by kernel_rfl

set_option maxHeartbeats 2000000 in
set_option maxRecDepth 100000 in
theorem gr_reach (w0 : World) (v : Value) (root : Int) (l : List Pl.Node) (u : Value) (fr : List Int) (w : World) (hv : RNodes w0 v l) (hb0 : Below w0.heap.size w0 w) (hl : l.length ≤ 1048576) (hk : ∀ x ∈ l, x.kids.length ≤ 1048576)
    (hr : Pl.Refs l) (hown : w.ownsRow w0.heap.size 3 1 u fr.length (i64s fr)) (hp : ∀ x ∈ fr, Pl.isPlace l.length x) (hf : fr.length ≤ 1048576) :
    Calls Tryd.prog 51 #[.agg #[v, .int .i64 root], u] w fun en w' => (∃ b met, en = .returned (.map (some b)) ∧ MetAt w' b met.length met ∧ ∀ k, k ∈ met ↔ Pl.Reach l fr k) ∧ Upd (fun k => u.ownBlock = some k) w w' := by
  have hC := Pl.unmet_le l [] 1048576 hk
  have hC2 : l.length * 1048576 ≤ 1048576 * 1048576 := Nat.mul_le_mul_right _ hl
  have HC : Hid (fr.length + Pl.unmet l [] ≤ 1099512676352) := by unfold Hid; omega
  clear hC hC2
  have hB1 : Below w0.heap.size w0 (w.alloc (.cells #[v, .int .i64 root] 24)) := hb0.alloc hb0.size _
  have HV := Lib.hid hv
  obtain ⟨A, c, rfl, hA⟩ := hv
  have HA := Lib.hid hA
  have HP := Lib.hid hp
  have HR := Lib.hid hr
  have HW := Lib.hid hown
  clear hA hp hr hown hk hB1
  have hmm := @run_makeMap Tryd.prog
  go_enter Tryd.func51, Tryd.ntmps51
  go_wp2_with fail
  have hM := MetAt.made (w.alloc (.cells #[.slice A l.length c, .int .i64 root] 24))
  have hRow : ((w.alloc (.cells #[.slice A l.length c, .int .i64 root] 24)).alloc (.map #[] 0)).heap[w.heap.size]? = some (.cells #[.slice A l.length c, .int .i64 root] 24 (0, 0)) :=
    (Below.heap_alloc _ _ _ (by simp)).trans (heap_alloc_new w _)
  have hU : Upd (fun k => u.ownBlock = some k) w ((w.alloc (.cells #[.slice A l.length c, .int .i64 root] 24)).alloc (.map #[] 0)) := ((Upd.refl _ _).alloc _).alloc _
  have hO : ((w.alloc (.cells #[.slice A l.length c, .int .i64 root] 24)).alloc (.map #[] 0)).ownsRow w0.heap.size 3 1 u fr.length (i64s fr) := own_new (own_new HW.out _) _
  go_loopg [1, 6] (fr.length + Pl.unmet l []) (fun g u' at_ wr => ∃ fs met, Hid (Pl.RInv l fr met fs) ∧ g = fs.length + Pl.unmet l met ∧ g ≤ fr.length + Pl.unmet l [] ∧ wr.ownsRow w0.heap.size 3 1 u' fs.length (i64s fs) ∧ MetAt wr (w.heap.size + 1) met.length met ∧
    wr.heap[w.heap.size]? = some (.cells #[.slice A l.length c, .int .i64 root] 24 (0, 0)) ∧ Upd (fun k => u.ownBlock = some k) w wr ∧ (∀ k, u'.ownBlock = some k → u.ownBlock = some k ∨ w.heap.size ≤ k))
  case atStart =>
    exact ⟨fr, [], Pl.RInv.start HP.out, rfl, Nat.le_refl _, hO, by simpa using hM, hRow, hU, fun k hk => .inl hk⟩
  case round =>
    clear hM hRow hU hO hmm
    obtain ⟨fs, met, hI, rfl, hg, hO, hM, hRow, hU, hB⟩ := hrel
    rcases List.eq_nil_or_concat fs with rfl | ⟨fs, k, rfl⟩
    · obtain ⟨A1, c1, rfl⟩ := own_slice hO
      have HI := Lib.hid (hI.out.done)
      clear hI hg hB hO
      have HM := Lib.hid hM
      have HU := Lib.hid hU
      clear hM hU
      go_wp2_with fail
      go_ret
      exact ⟨⟨_, met, rfl, HM.out, HI.out⟩, HU.out⟩
    · rw [List.concat_eq_append] at hI hO hg
      rw [List.length_append, List.length_singleton] at hO hg
      obtain ⟨G, cap, rfl, hcap⟩ : ∃ G cap, u1 = .slice (some ⟨G, 0, none⟩) (fs.length + 1) cap ∧ fs.length + 1 ≤ cap := by
        rcases hO.2 with ⟨_, h0⟩ | ⟨g, cap, cur, rfl, _, _, h0, _⟩
        · omega
        · exact ⟨_, _, rfl, h0⟩
      rw [i64s_append] at hO
      have hpl := hI.out.pl k (by simp)
      have hkm := hI.out.mpl
      have hml := Pl.nodup_len hI.out.nd hI.out.mpl
      unfold Pl.isPlace at hpl
      have e1 : wr.cell? ⟨G, fs.length, none⟩ = some (.int .i64 k) := by
        rw [hO.cellAt fs.length (by omega)]; simp [i64s]
      have hO2 := ownsRow_pop (last := i64s [k]) (by rw [i64s_len]; omega) hO
      have t1 : decide (0 < fs.length + 1) = true := decide_eq_true (by omega)
      have hk64 : i64ok k := by unfold i64ok; omega
      have hfb : fs.length ≤ 1099512676352 := by have := HC.out; omega
      have hL := hM.look hk64
      by_cases hin : k ∈ met
      · rw [decide_eq_true hin] at hL
        have HI := Lib.hid (hI.out.skip hin)
        have HM := Lib.hid hM
        have HU := Lib.hid hU
        have HRow := Lib.hid hRow
        have HO2 := Lib.hid hO2
        clear hI hM hU hO hRow hO2 hkm
        go_wp2_with fail
        go_roundg (fs.length + Pl.unmet l met)
        case measure => simp
        case rel => exact ⟨fs, met, HI, rfl, by omega, HO2.out, HM.out, HRow.out, HU.out, hB⟩
      · rw [decide_eq_false hin] at hL
        obtain ⟨ad, hAe, hca⟩ := HA.out (by omega)
        obtain ⟨kn, hkn⟩ : ∃ kn : Nat, k = kn := ⟨k.toNat, by omega⟩
        subst hkn
        have hkl : kn < l.length := by omega
        obtain ⟨vi, vt, vk, h0, h1, h2, h3, hi, ht, hkk⟩ := ((hca kn hkl))
        have hum := Pl.unmet_cons l met kn hpl hin
        have hka : Pl.kidsAt l (kn : Int).toNat = l[kn].kids := by rw [Int.toNat_natCast]; exact Pl.kidsAt_get hkl
        have hI2 := hI.out.take HR.out hin
        rw [hka] at hum hI2
        clear hca hka hI hkm
        generalize l[kn] = x at *
        subst hAe
        have tl1 : decide ((kn : Int) < l.length) = true := decide_eq_true (by omega)
        have HI := Lib.hid hI2
        have HU := Lib.hid hU
        have HRow := Lib.hid hRow
        have HM := Lib.hid hM
        have HO2 := Lib.hid hO2
        have HN := Lib.hid hum
        have HG := Lib.hid hg
        clear hI2 hU hO hRow hM hO2 hum hg
        go_wp2_with (at_mapUpdate; refine met_put rfl rfl (.tmp 25) (.tmp 26) _ rfl HM.out (by omega) hk64 rfl rfl rfl ?_)
        intro w2 hM2 hG2
        have hU2 : Hid (Upd (fun k => u.ownBlock = some k) w w2) := HU.out.after (Upd.grown hG2) (fun i hi => by simp at hi; omega)
        have hz := (Array.getElem?_eq_some_iff.1 HRow.out).1
        have hRow2 : Hid (w2.heap[w.heap.size]? = some (.cells #[.slice (some ad) l.length c, .int .i64 root] 24 (0, 0))) := (hG2.block _ hz (by simp)).trans HRow.out
        have hB2 : Hid (Below w0.heap.size w0 w2) := Upd.below hb0 hU2.out hb0.size (own_ge HW.out)
        have hO3 : Hid (w2.ownsRow w0.heap.size 3 1 (.slice (some ⟨G, 0, none⟩) fs.length cap) fs.length (i64s fs)) := HO2.out.kept hG2 (.inr (own_notRow HO2.out (by
          obtain ⟨D, ⟨es, clock, h1, _⟩, _⟩ := HM.out
          intro cells fr h; rw [h1] at h; cases h)))
        replace h0 := (hB2.out.cell (World.block_lt_of_cell? w0 _ h0)).trans h0
        replace h1 := (hB2.out.cell (World.block_lt_of_cell? w0 _ h1)).trans h1
        replace h2 := (hB2.out.cell (World.block_lt_of_cell? w0 _ h2)).trans h2
        replace h3 := (hB2.out.cell (World.block_lt_of_cell? w0 _ h3)).trans h3
        replace hkk := hkk.below hB2.out
        obtain ⟨VA, vc, rfl, hkc⟩ := hkk
        have c0 : w2.cell? ⟨w.heap.size, 0, none⟩ = some (.slice (some ad) l.length c) := by rw [cell_row hRow2.out]; rfl
        have HK : Hid (0 < x.kids.length → ∃ ad, VA = some ad ∧ ∀ j u, (i64s x.kids)[j]? = some u → w2.cell? (ad.add j) = some u) := by
          intro hlt
          obtain ⟨a2, e2, h⟩ := hkc hlt
          refine ⟨a2, e2, fun j u hj => ?_⟩
          have hjl : j < x.kids.length := by
            have := (List.getElem?_eq_some_iff.1 hj).1
            rwa [i64s_len] at this
          rw [i64s_get _ _ hjl] at hj
          cases hj
          exact h j hjl
        have HM2 := Lib.hid hM2
        have hs2 : Hid (w0.heap.size ≤ w2.heap.size) := hB2.out.size
        clear hM2 hG2 hkc HM HO2 HRow HU HV HA
        go_wp2_with (at_builtin; refine app_row (.tmp 27) (.tmp 33) 41 3 (.int .i64 0) 1 8 Tryd.underlying41 infoInt rfl (by decide) rfl rfl rfl hO3.out hs2.out (i64s x.kids) (by rw [i64s_len]; omega) rfl HK.out (i64s_one _) ?cb (by decide) ?_; (case cb => have := HC.out; have := HG.out; have := HN.out; omega); intro v3 w3 hO4 hU4 hB4)
        rw [← i64s_append] at hO4
        have hU3 := hU2.out.after hU4 (fun i hi => hB i hi)
        have hRow3 : Hid (w3.heap[w.heap.size]? = some (.cells #[.slice (some ad) l.length c, .int .i64 root] 24 (0, 0))) := (hU4.block _ (Array.getElem?_eq_some_iff.1 hRow2.out).1 (own_notRow hO3.out (notRow_of hRow2.out (by decide)))).trans hRow2.out
        have hM3 : Hid (MetAt w3 (w.heap.size + 1) (met.length + 1) ((kn : Int) :: met)) := HM2.out.block (hU4.block _ HM2.out.lt (own_notRow hO3.out (by
          obtain ⟨D, ⟨es, clock, h1, _⟩, _⟩ := HM2.out
          intro cells fr h; rw [h1] at h; cases h)))
        have hB5 : Hid (∀ k, v3.ownBlock = some k → u.ownBlock = some k ∨ w.heap.size ≤ k) := by
          intro k hk
          rcases hB4 with h | h
          · exact hB k (h ▸ hk)
          · rw [h] at hk; cases hk; exact .inr hU2.out.size
        have HU3 := Lib.hid hU3
        have HO4 := Lib.hid hO4
        clear hU3 hO4 hU4 hB4
        go_roundg (fs.length + x.kids.length + Pl.unmet l (kn :: met))
        case measure => have := HN.out; simp only [List.length_concat]; omega
        case rel => exact ⟨fs ++ x.kids, (kn : Int) :: met, HI, by simp, by have := HN.out; have := HG.out; omega, by rw [List.length_append]; exact HO4.out, hM3.out, hRow3.out, HU3.out, hB5.out⟩
end Go.Proofs.YtdejljgoebcmpaaDoor
/- Plain: the order of graph.order: kids ahead of who leads to them. No program in sight. -/
namespace Go.Proofs.YtdejljgoebcmpaaDoor.Pl

def upd {α : Type} (f : Nat → α) (k : Nat) (v : α) : Nat → α := fun j => if j = k then v else f j
theorem upd_same {α : Type} (f : Nat → α) (k : Nat) (v : α) : upd f k v k = v := if_pos rfl
theorem upd_other {α : Type} (f : Nat → α) {k j : Nat} (v : α) (h : j ≠ k) : upd f k v j = f j := if_neg h

theorem take_mid {α : Type} (l : List α) (j : Nat) (h : j < l.length) : l = l.take j ++ l[j] :: l.drop (j + 1) := by
  rw [← List.drop_eq_getElem_cons h, List.take_append_drop]
theorem take_app1 {α : Type} (P : List α) (c : α) (r : List α) : (P ++ c :: r).take (P.length + 1) = P ++ [c] := by
  rw [List.take_append, List.take_of_length_le (by omega)]
  simp
/-- Who leads to each, as far as was seen: all of the nodes before the i-th, and the i-th one's first kids. -/
structure O1 (l : List Node) (i : Nat) (kd : List Int) (par : Nat → List Int) : Prop where
  cnt : ∀ k, k < l.length → ∀ x : Nat, (par k).count (x : Int) = if x < i then (kidsAt l x).count (k : Int) else if x = i then kd.count (k : Int) else 0
  pl : ∀ k, k < l.length → ∀ y ∈ par k, isPlace l.length y
  len : ∀ k, k < l.length → (par k).length ≤ i * 1048576 + kd.length
theorem O1.start (l : List Node) : O1 l 0 [] (fun _ => []) := ⟨fun k _ x => by simp, fun k _ y h => by simp at h, fun k _ => by simp⟩
theorem O1.step {l : List Node} {i : Nat} {kd : List Int} {par : Nat → List Int} (h : O1 l i kd par) (hi : i < l.length) (k : Nat) : O1 l i (kd ++ [(k : Int)]) (upd par k (par k ++ [(i : Int)])) := by
  refine ⟨fun m hm x => ?_, fun m hm y hy => ?_, fun m hm => ?_⟩
  · by_cases e : m = k
    · subst e
      rw [upd_same, List.count_append, h.cnt m hm x, List.count_append]
      by_cases h1 : x < i
      · rw [if_pos h1, if_pos h1]
        have : [(i : Int)].count (x : Int) = 0 := List.count_eq_zero.2 (by simp; omega)
        omega
      · rw [if_neg h1, if_neg h1]
        by_cases h2 : x = i
        · subst h2; simp
        · rw [if_neg h2, if_neg h2]
          have : [(i : Int)].count (x : Int) = 0 := List.count_eq_zero.2 (by simp; omega)
          omega
    · rw [upd_other _ _ e, h.cnt m hm x, List.count_append]
      have : [(k : Int)].count (m : Int) = 0 := List.count_eq_zero.2 (by simp; omega)
      rw [this, Nat.add_zero]
  · by_cases e : m = k
    · subst e
      rw [upd_same] at hy
      rcases List.mem_append.1 hy with hy | hy
      · exact h.pl m hm y hy
      · obtain rfl : y = i := by simpa using hy
        unfold isPlace; omega
    · rw [upd_other _ _ e] at hy; exact h.pl m hm y hy
  · have := h.len m hm
    by_cases e : m = k
    · subst e; rw [upd_same]; simp; omega
    · rw [upd_other _ _ e]; simp; omega
theorem nxt {B a i c : Nat} (h : a ≤ i * B + c) (hc : c ≤ B) : a ≤ (i + 1) * B + 0 := by rw [Nat.add_mul]; omega
theorem O1.next {l : List Node} {i : Nat} {par : Nat → List Int} (h : O1 l i (kidsAt l i) par) (hk2 : (kidsAt l i).length ≤ 1048576) : O1 l (i + 1) [] par := by
  refine ⟨fun k hk x => ?_, h.pl, fun k hk => ?_⟩
  · rw [h.cnt k hk x]
    by_cases h1 : x < i
    · rw [if_pos h1, if_pos (by omega)]
    · rw [if_neg h1]
      by_cases h2 : x = i
      · subst h2; rw [if_pos rfl, if_pos (by omega)]
      · rw [if_neg h2, if_neg (by omega)]; simp
  · have := h.len k hk
    exact nxt this hk2
/-- The open kids, and who has none, before the i-th. -/
structure OA (l : List Node) (i : Nat) (op : Nat → Int) (ou : List Int) : Prop where
  opn : ∀ x, x < l.length → op x = if x < i then ((kidsAt l x).length : Int) else 0
  out : ∀ x : Int, x ∈ ou ↔ ∃ m : Nat, x = m ∧ m < i ∧ kidsAt l m = []
  nd : ou.Nodup
theorem OA.start (l : List Node) : OA l 0 (fun _ => 0) [] := ⟨fun x _ => by simp, fun x => by simp, by simp⟩
theorem OA.some {l : List Node} {i : Nat} {opn : Nat → Int} {out : List Int} (h : OA l i opn out) (hne : kidsAt l i ≠ []) : OA l (i + 1) (upd opn i (kidsAt l i).length) out := by
  refine ⟨fun x hx => ?_, fun x => ?_, h.nd⟩
  · by_cases e : x = i
    · subst e; rw [upd_same, if_pos (by omega)]
    · rw [upd_other _ _ e, h.opn x hx]
      by_cases h1 : x < i
      · rw [if_pos h1, if_pos (by omega)]
      · rw [if_neg h1, if_neg (by omega)]
  · rw [h.out x]
    constructor
    · rintro ⟨m, h1, h2, h3⟩; exact ⟨m, h1, by omega, h3⟩
    · rintro ⟨m, h1, h2, h3⟩
      refine ⟨m, h1, ?_, h3⟩
      rcases Nat.lt_or_ge m i with h4 | h4
      · exact h4
      · obtain rfl : m = i := by omega
        exact absurd h3 hne
theorem OA.none {l : List Node} {i : Nat} {opn : Nat → Int} {out : List Int} (h : OA l i opn out) (he : kidsAt l i = []) : OA l (i + 1) (upd opn i 0) (out ++ [(i : Int)]) := by
  refine ⟨fun x hx => ?_, fun x => ?_, ?_⟩
  · by_cases e : x = i
    · subst e; rw [upd_same, if_pos (by omega), he]; rfl
    · rw [upd_other _ _ e, h.opn x hx]
      by_cases h1 : x < i
      · rw [if_pos h1, if_pos (by omega)]
      · rw [if_neg h1, if_neg (by omega)]
  · rw [List.mem_append, h.out x]
    constructor
    · rintro (⟨m, h1, h2, h3⟩ | h1)
      · exact ⟨m, h1, by omega, h3⟩
      · exact ⟨i, by simpa using h1, by omega, he⟩
    · rintro ⟨m, h1, h2, h3⟩
      rcases Nat.lt_or_ge m i with h4 | h4
      · exact .inl ⟨m, h1, h4, h3⟩
      · obtain rfl : m = i := by omega
        exact .inr (by simp [h1])
  · rw [List.nodup_append]
    refine ⟨h.nd, by simp, fun a ha b hb => ?_⟩
    obtain rfl : b = i := by simpa using hb
    obtain ⟨m, h1, h2, _⟩ := (h.out a).1 ha
    omega
theorem OA.place {l : List Node} {opn : Nat → Int} {out : List Int} (h : OA l l.length opn out) : ∀ x ∈ out, isPlace l.length x := by
  intro x hx
  obtain ⟨m, h1, h2, _⟩ := (h.out x).1 hx
  unfold isPlace; omega

theorem countP_drop (kids P : List Int) (c : Int) (hc : c ∉ P) : kids.countP (fun k => decide (k ∉ P)) = kids.countP (fun k => decide (k ∉ P ++ [c])) + kids.count c := by
  induction kids with
  | nil => simp
  | cons k kids ih =>
    rw [List.countP_cons, List.countP_cons, List.count_cons, ih]
    by_cases e : k = c
    · subst e; simp [hc]; omega
    · by_cases h : k ∈ P
      · simp [h, e]
      · simp [h, e]; omega

/-- The second half: P is done; of who leads to the next one, dn. -/
structure O2 (l : List Node) (P dn : List Int) (op : Nat → Int) (out : List Int) : Prop where
  opn : ∀ x, x < l.length → op x = ((kidsAt l x).countP (fun k => decide (k ∉ P)) : Nat) - (dn.count (x : Int) : Nat)
  iff : ∀ x : Nat, x < l.length → ((x : Int) ∈ out ↔ op x = 0)
  place : ∀ x ∈ out, isPlace l.length x
  nd : out.Nodup
  topo : ∀ i (h : i < out.length), ∀ k ∈ kidsAt l out[i].toNat, k ∈ out.take i
theorem O2.start {l : List Node} {opn : Nat → Int} {out : List Int} (h : OA l l.length opn out) : O2 l [] [] opn out := by
  have e : ∀ x, x < l.length → opn x = (kidsAt l x).length := fun x hx => by rw [h.opn x hx, if_pos hx]
  refine ⟨fun x hx => ?_, fun x hx => ?_, h.place, h.nd, fun i hi k hk => ?_⟩
  · rw [e x hx]
    have : (kidsAt l x).countP (fun k => decide (k ∉ ([] : List Int))) = (kidsAt l x).length := by rw [List.countP_eq_length]; simp
    rw [this]; simp
  · rw [e x hx, h.out]
    constructor
    · rintro ⟨m, h1, _, h3⟩
      obtain rfl : x = m := by omega
      rw [h3]; rfl
    · intro h0
      exact ⟨x, rfl, hx, List.eq_nil_of_length_eq_zero (by omega)⟩
  · obtain ⟨m, h1, _, h3⟩ := (h.out out[i]).1 (List.getElem_mem hi)
    rw [h1, Int.toNat_natCast, h3] at hk
    simp at hk
theorem O2.pos {l : List Node} {par : Nat → List Int} {P dn : List Int} {opn : Nat → Int} {out : List Int} (h : O2 l P dn opn out) (h1 : O1 l l.length [] par) {c p : Nat} {rest : List Int} (hc : c < l.length) (hcP : (c : Int) ∉ P)
    (hp : par c = dn ++ (p : Int) :: rest) (hpl : p < l.length) : 1 ≤ opn p ∧ opn p ≤ (kidsAt l p).length := by
  have e1 := h.opn p hpl
  have e2 := h1.cnt c hc p
  rw [if_pos hpl, hp, List.count_append, List.count_cons_self] at e2
  have e3 := countP_drop (kidsAt l p) P c hcP
  have e4 := List.countP_le_length (p := fun k => decide (k ∉ P)) (l := kidsAt l p)
  omega
theorem O2.keep {l : List Node} {par : Nat → List Int} {P dn : List Int} {opn : Nat → Int} {out : List Int} (h : O2 l P dn opn out) (h1 : O1 l l.length [] par) {c p : Nat} {rest : List Int} (hc : c < l.length) (hcP : (c : Int) ∉ P)
    (hp : par c = dn ++ (p : Int) :: rest) (hpl : p < l.length) (hne : opn p - 1 ≠ 0) : O2 l P (dn ++ [(p : Int)]) (upd opn p (opn p - 1)) out := by
  have hpos := (h.pos h1 hc hcP hp hpl).1
  refine ⟨fun x hx => ?_, fun x hx => ?_, h.place, h.nd, h.topo⟩
  · rw [List.count_append]
    have := h.opn x hx
    by_cases e : x = p
    · subst e; rw [upd_same]
      have : [(x : Int)].count (x : Int) = 1 := by simp
      omega
    · rw [upd_other _ _ e, this]
      have : [(p : Int)].count (x : Int) = 0 := List.count_eq_zero.2 (by simp; omega)
      omega
  · by_cases e : x = p
    · subst e
      rw [upd_same, h.iff x hx]; omega
    · rw [upd_other _ _ e]; exact h.iff x hx
theorem O2.grow {l : List Node} (hr : Refs l) {par : Nat → List Int} {P dn : List Int} {opn : Nat → Int} {out : List Int} (h : O2 l P dn opn out) (h1 : O1 l l.length [] par) {c p : Nat} {rest : List Int} (hc : c < l.length) (hcP : (c : Int) ∉ P)
    (hp : par c = dn ++ (p : Int) :: rest) (hpl : p < l.length) (h0 : opn p - 1 = 0) (hpre : ∀ k, k ∈ P ∨ k = c → k ∈ out) : O2 l P (dn ++ [(p : Int)]) (upd opn p (opn p - 1)) (out ++ [(p : Int)]) := by
  have hno : (p : Int) ∉ out := by rw [h.iff p hpl]; omega
  have hkids : ∀ k ∈ kidsAt l p, k ∈ out := by
    intro k hk
    refine hpre k ?_
    have e1 := h.opn p hpl
    have e2 := h1.cnt c hc p
    rw [if_pos hpl, hp, List.count_append, List.count_cons_self] at e2
    have e3 := countP_drop (kidsAt l p) P c hcP
    have e5 : (kidsAt l p).countP (fun k => decide (k ∉ P ++ [(c : Int)])) = 0 := by omega
    rw [List.countP_eq_zero] at e5
    have := e5 k hk
    simp at this
    exact Classical.byContradiction fun hn => by
      have h1 : k ∉ P := fun h => hn (.inl h)
      exact hn (.inr (this h1))
  refine ⟨fun x hx => ?_, fun x hx => ?_, fun x hx => ?_, ?_, fun i hi k hk => ?_⟩
  · rw [List.count_append]
    have := h.opn x hx
    by_cases e : x = p
    · subst e; rw [upd_same]
      have : [(x : Int)].count (x : Int) = 1 := by simp
      omega
    · rw [upd_other _ _ e, this]
      have : [(p : Int)].count (x : Int) = 0 := List.count_eq_zero.2 (by simp; omega)
      omega
  · by_cases e : x = p
    · subst e
      rw [upd_same]; simp; omega
    · rw [upd_other _ _ e, List.mem_append, ← h.iff x hx]; simp; omega
  · rcases List.mem_append.1 hx with h2 | h2
    · exact h.place x h2
    · obtain rfl : x = p := by simpa using h2
      unfold isPlace; omega
  · rw [List.nodup_append]
    refine ⟨h.nd, by simp, fun a ha b hb => ?_⟩
    obtain rfl : b = p := by simpa using hb
    exact fun e => hno (e ▸ ha)
  · rcases Nat.lt_or_ge i out.length with h2 | h2
    · rw [List.getElem_append_left h2] at hk
      rw [List.take_append_of_le_length (by omega)]
      exact h.topo i h2 k hk
    · simp at hi
      obtain rfl : i = out.length := by omega
      simp at hk
      simpa using hkids k hk
theorem O2.next {l : List Node} {par : Nat → List Int} {P : List Int} {opn : Nat → Int} {out : List Int} {c : Nat} (h : O2 l P (par c) opn out) (h1 : O1 l l.length [] par) (hc : c < l.length) (hcP : (c : Int) ∉ P) : O2 l (P ++ [(c : Int)]) [] opn out := by
  refine ⟨fun x hx => ?_, h.iff, h.place, h.nd, h.topo⟩
  have e1 := h.opn x hx
  have e2 := h1.cnt c hc x
  rw [if_pos hx] at e2
  have e3 := countP_drop (kidsAt l x) P c hcP
  simp only [List.count_nil]
  omega
theorem O2.done {l : List Node} {opn : Nat → Int} {out : List Int} (h : O2 l out [] opn out) : IsOrder l out := by
  refine ⟨h.place, h.nd, h.topo, fun x hx hno => ?_⟩
  have h1 : opn x ≠ 0 := fun h0 => hno ((h.iff x hx).2 h0)
  have h2 := h.opn x hx
  simp only [List.count_nil] at h2
  have : 0 < (kidsAt l x).countP (fun k => decide (k ∉ out)) := by omega
  obtain ⟨k, hk, hd⟩ := List.countP_pos_iff.1 this
  exact ⟨k, hk, by simpa using hd⟩
end Go.Proofs.YtdejljgoebcmpaaDoor.Pl
/- The memory of graph.order: who leads to each (rows in a row), the open kids, the order. -/
namespace Go.Proofs.YtdejljgoebcmpaaDoor
open Go.RowKit

theorem Upd.one (w : World) (g j : Nat) (u : Value) : Upd (· = g) w (w.setCell ⟨g, j, none⟩ u) := (Upd.refl (· = g) w).set (.inl rfl) j u
def rowOf (n : Nat) (f : Nat → Value) : Array Value := ((List.range n).map f).toArray
theorem rowOf_size (n : Nat) (f : Nat → Value) : (rowOf n f).size = n := by simp [rowOf]
theorem rowOf_get (n : Nat) (f : Nat → Value) (j : Nat) (h : j < n) : (rowOf n f)[j]? = some (f j) := by simp [rowOf, h]
theorem rowOf_set (n : Nat) (f : Nat → Value) (k : Nat) (v : Value) : (rowOf n f).setIfInBounds k v = rowOf n (Pl.upd f k v) := by
  apply Array.ext
  · simp [rowOf]
  · intro i h1 h2
    simp only [rowOf, Array.size_setIfInBounds, List.size_toArray, List.length_map, List.length_range] at h1
    rw [Array.getElem_setIfInBounds (by rw [rowOf_size]; exact h1)]
    simp only [rowOf, List.getElem_toArray, List.getElem_map, List.getElem_range, Pl.upd]
    by_cases e : k = i
    · subst e; simp
    · rw [if_neg e, if_neg (fun h => e h.symm)]
theorem rowOf_congr {n : Nat} {f g : Nat → Value} (h : ∀ j, j < n → f j = g j) : rowOf n f = rowOf n g := by
  unfold rowOf; congr 1; exact List.map_congr_left fun j hj => h j (by simpa using hj)
theorem make_rowOf (z : Value) (n : Nat) : madeCells #[z] n = rowOf n (fun _ => z) := by
  apply Array.ext
  · simp [madeCells, rowOf]
  · intro i h1 h2; simp [madeCells, rowOf, Nat.mod_one]
set_option maxRecDepth 100000 in
theorem make_ints (n : Nat) (hn : n ≤ 1048576) (w : World) : (Instr.makeSlice 41 (.int .i64 n) (.int .i64 n)).run Tryd.prog w = .ok (.slice (some ⟨w.heap.size, 0, none⟩) n n) (w.alloc (.cells (rowOf n fun _ => .int .i64 0) 3)) := by
  have := run_make_row' (P := Tryd.prog) 41 3 (.int .i64 0) 8 Tryd.underlying41 rfl rfl .i64 .i64 n (by omega) (by omega) w
  rwa [make_rowOf] at this
set_option maxRecDepth 100000 in
theorem make_rows (n : Nat) (hn : n ≤ 1048576) (w : World) : (Instr.makeSlice 129 (.int .i64 n) (.int .i64 n)).run Tryd.prog w = .ok (.slice (some ⟨w.heap.size, 0, none⟩) n n) (w.alloc (.cells (rowOf n fun _ => .slice none 0 0) 41)) := by
  have := run_make_row' (P := Tryd.prog) 129 41 (.slice none 0 0) 24 Tryd.underlying129 rfl rfl .i64 .i64 n (by omega) (by omega) w
  rwa [make_rowOf] at this

def intF (f : Nat → Int) : Nat → Value := fun j => .int .i64 (f j)
theorem intF_upd (f : Nat → Int) (k : Nat) (x : Int) : Pl.upd (intF f) k (.int .i64 x) = intF (Pl.upd f k x) := by
  funext j; by_cases e : j = k
  · subst e; rw [Pl.upd_same]; unfold intF; rw [Pl.upd_same]
  · rw [Pl.upd_other _ _ e]; unfold intF; rw [Pl.upd_other _ _ e]
structure OSt (w : World) (B n pb ob : Nat) (vs : Nat → Value) (par : Nat → List Int) (opn : Nat → Int) (v : Value) (out : List Int) : Prop where
  prow : w.heap[pb]? = some (.cells (rowOf n vs) 41 (0, 0))
  orow : w.heap[ob]? = some (.cells (rowOf n (intF opn)) 3 (0, 0))
  own : ∀ j, j < n → w.ownsRow B 3 1 (vs j) (par j).length (i64s (par j))
  vown : w.ownsRow B 3 1 v out.length (i64s out)
  apart : ∀ i j, i < n → j < n → i ≠ j → ∀ k, (vs i).ownBlock = some k → (vs j).ownBlock ≠ some k
  pob : ∀ i, i < n → (vs i).ownBlock ≠ some ob
  vob : v.ownBlock ≠ some ob
  vap : ∀ i, i < n → ∀ k, (vs i).ownBlock = some k → v.ownBlock ≠ some k
namespace OSt
variable {w : World} {B n pb ob : Nat} {vs : Nat → Value} {par : Nat → List Int} {opn : Nat → Int} {v : Value} {out : List Int}
theorem plt (h : OSt w B n pb ob vs par opn v out) : pb < w.heap.size := (Array.getElem?_eq_some_iff.1 h.prow).1
theorem olt (h : OSt w B n pb ob vs par opn v out) : ob < w.heap.size := (Array.getElem?_eq_some_iff.1 h.orow).1
theorem pne (h : OSt w B n pb ob vs par opn v out) : pb ≠ ob := by
  intro e
  have h1 := h.prow
  rw [e, h.orow] at h1
  injection h1 with h1
  injection h1 with _ h2 _
  exact absurd h2 (by decide)
theorem pcell (h : OSt w B n pb ob vs par opn v out) (j : Nat) (hj : j < n) : w.cell? ⟨pb, j, none⟩ = some (vs j) := by rw [cell_row h.prow, rowOf_get n vs j hj]
theorem ocell (h : OSt w B n pb ob vs par opn v out) (j : Nat) (hj : j < n) : w.cell? ⟨ob, j, none⟩ = some (.int .i64 (opn j)) := by rw [cell_row h.orow, rowOf_get n _ j hj]; rfl
theorem pfr (h : OSt w B n pb ob vs par opn v out) (j : Nat) : w.frozen? ⟨pb, j, none⟩ = false := frozen4 h.prow j
theorem ofr (h : OSt w B n pb ob vs par opn v out) (j : Nat) : w.frozen? ⟨ob, j, none⟩ = false := frozen4 h.orow j
/-- Whatever turns elsewhere. -/
theorem upd (h : OSt w B n pb ob vs par opn v out) {w' : World} {S : Nat → Prop} (hu : Upd S w w') (hp : ¬ S pb) (ho : ¬ S ob) (hvs : ∀ j, j < n → ∀ k, (vs j).ownBlock = some k → ¬ S k) (hv : ∀ k, v.ownBlock = some k → ¬ S k) : OSt w' B n pb ob vs par opn v out :=
  ⟨(hu.block _ h.plt hp).trans h.prow, (hu.block _ h.olt ho).trans h.orow, fun j hj => hu.own (h.own j hj) (hvs j hj), hu.own h.vown hv, h.apart, h.pob, h.vob, h.vap⟩
theorem alloc (h : OSt w B n pb ob vs par opn v out) (o : Obj) : OSt (w.alloc o) B n pb ob vs par opn v out :=
  h.upd (S := fun _ => False) ((Upd.refl _ w).alloc o) id id (fun _ _ _ _ h => h) (fun _ _ h => h)
theorem vpb (h : OSt w B n pb ob vs par opn v out) {j : Nat} (hj : j < n) : (vs j).ownBlock ≠ some pb := own_notRow (h.own j hj) (notRow_of h.prow (by decide))
theorem vvpb (h : OSt w B n pb ob vs par opn v out) : v.ownBlock ≠ some pb := own_notRow h.vown (notRow_of h.prow (by decide))
theorem setO (h : OSt w B n pb ob vs par opn v out) (k : Nat) (x : Int) : OSt (w.setCell ⟨ob, k, none⟩ (.int .i64 x)) B n pb ob vs par (Pl.upd opn k x) v out := by
  have hu : Upd (· = ob) w (w.setCell ⟨ob, k, none⟩ (.int .i64 x)) := (Upd.refl (· = ob) w).set (.inl rfl) k _
  refine ⟨(hu.block _ h.plt h.pne).trans h.prow, ?_, fun j hj => hu.own (h.own j hj) (fun i hi he => h.pob j hj (he ▸ hi)), hu.own h.vown (fun i hi he => h.vob (he ▸ hi)), h.apart, h.pob, h.vob, h.vap⟩
  rw [heap_setCell_same w ob k _ _ _ h.orow, rowOf_set, intF_upd]
/-- One more that leads to k: behind the append, and the store. -/
theorem appP (h : OSt w B n pb ob vs par opn v out) {k : Nat} (hk : k < n) {w1 : World} {v1 : Value} {x : Int} (hu : Upd (fun i => (vs k).ownBlock = some i) w w1)
    (h1 : w1.ownsRow B 3 1 v1 ((par k).length + 1) (i64s (par k) ++ [.int .i64 x])) (hat : v1.ownBlock = (vs k).ownBlock ∨ ∃ m, w.heap.size ≤ m ∧ v1.ownBlock = some m) :
    OSt (w1.setCell ⟨pb, k, none⟩ v1) B n pb ob (Pl.upd vs k v1) (Pl.upd par k (par k ++ [x])) opn v out := by
  have h2 : Upd (· = pb) w1 (w1.setCell ⟨pb, k, none⟩ v1) := (Upd.refl (· = pb) w1).set (.inl rfl) k _
  have hp1 : w1.heap[pb]? = some (.cells (rowOf n vs) 41 (0, 0)) := (hu.block _ h.plt (h.vpb hk)).trans h.prow
  have ho1 : w1.heap[ob]? = some (.cells (rowOf n (intF opn)) 3 (0, 0)) := (hu.block _ h.olt (h.pob k hk)).trans h.orow
  have hv1pb : v1.ownBlock ≠ some pb := own_notRow h1 (notRow_of hp1 (by decide))
  have hnew : ∀ i, v1.ownBlock = some i → (vs k).ownBlock = some i ∨ w.heap.size ≤ i := by
    intro i hi
    rcases hat with h3 | ⟨m, h3, h4⟩
    · exact .inl (h3 ▸ hi)
    · rw [h4] at hi; cases hi; exact .inr h3
  refine ⟨?_, (h2.block _ (Array.getElem?_eq_some_iff.1 ho1).1 (fun e => h.pne e.symm)).trans ho1, fun j hj => ?_, ?_, fun i j hi hj hij b hb => ?_, fun i hi => ?_, h.vob, fun i hi b hb => ?_⟩
  · rw [heap_setCell_same w1 pb k _ _ _ hp1, rowOf_set]
  · by_cases e : j = k
    · subst e
      rw [Pl.upd_same, Pl.upd_same, List.length_append, i64s_append]
      exact h2.own h1 (fun i hi he => hv1pb (he ▸ hi))
    · rw [Pl.upd_other _ _ e, Pl.upd_other _ _ e]
      exact h2.own (hu.own (h.own j hj) (fun i hi he => h.apart k j hk hj (Ne.symm e) i he hi)) (fun i hi he => h.vpb hj (he ▸ hi))
  · exact h2.own (hu.own h.vown (fun i hi he => h.vap k hk i he hi)) (fun i hi he => h.vvpb (he ▸ hi))
  · by_cases e : i = k
    · subst e
      rw [Pl.upd_same] at hb
      rw [Pl.upd_other _ _ (Ne.symm hij)]
      rcases hnew b hb with h3 | h3
      · exact h.apart i j hi hj hij b h3
      · intro h4; have := own_lt (h.own j hj) b h4; omega
    · rw [Pl.upd_other _ _ e] at hb
      by_cases e2 : j = k
      · subst e2
        rw [Pl.upd_same]
        intro h4
        rcases hnew b h4 with h3 | h3
        · exact h.apart i j hi hj hij b hb h3
        · have := own_lt (h.own i hi) b hb; omega
      · rw [Pl.upd_other _ _ e2]; exact h.apart i j hi hj hij b hb
  · by_cases e : i = k
    · subst e
      rw [Pl.upd_same]
      intro h4
      rcases hnew ob h4 with h3 | h3
      · exact h.pob i hi h3
      · have := h.olt; omega
    · rw [Pl.upd_other _ _ e]; exact h.pob i hi
  · by_cases e : i = k
    · subst e
      rw [Pl.upd_same] at hb
      rcases hnew b hb with h3 | h3
      · exact h.vap i hi b h3
      · intro h4; have := own_lt h.vown b h4; omega
    · rw [Pl.upd_other _ _ e] at hb; exact h.vap i hi b hb
theorem appO (h : OSt w B n pb ob vs par opn v out) {w1 : World} {v1 : Value} {x : Int} (hu : Upd (fun i => v.ownBlock = some i) w w1)
    (h1 : w1.ownsRow B 3 1 v1 (out.length + 1) (i64s out ++ [.int .i64 x])) (hat : v1.ownBlock = v.ownBlock ∨ ∃ m, w.heap.size ≤ m ∧ v1.ownBlock = some m) :
    OSt w1 B n pb ob vs par opn v1 (out ++ [x]) := by
  have hnew : ∀ i, v1.ownBlock = some i → v.ownBlock = some i ∨ w.heap.size ≤ i := by
    intro i hi
    rcases hat with h3 | ⟨m, h3, h4⟩
    · exact .inl (h3 ▸ hi)
    · rw [h4] at hi; cases hi; exact .inr h3
  refine ⟨(hu.block _ h.plt h.vvpb).trans h.prow, (hu.block _ h.olt h.vob).trans h.orow, fun j hj => hu.own (h.own j hj) (fun i hi he => h.vap j hj i hi he), ?_, h.apart, h.pob, fun h4 => ?_, fun i hi b hb h4 => ?_⟩
  · rw [List.length_append, i64s_append]; exact h1
  · rcases hnew ob h4 with h3 | h3
    · exact h.vob h3
    · have := h.olt; omega
  · rcases hnew b h4 with h3 | h3
    · exact h.vap i hi b hb h3
    · have := own_lt (h.own i hi) b hb; omega
end OSt
end Go.Proofs.YtdejljgoebcmpaaDoor
