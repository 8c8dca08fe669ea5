/- Texts of mine, joined: what the functions compute that the law reaches, each under its own conditions, and plain lemmas on it. -/
import Derived.Test.YtdejljgoebcmpaaDoorJOld4
import Derived.Test.YtdejljgoebcmpaaDoorJOld2
import Derived.Test.YtdejljgoebcmpaaDoorProg
/- Plain: a scene, a file of sections are read there and back; the laws of version 1's file. -/
namespace Go.Proofs.YtdejljgoebcmpaaDoor.Pl
/-- Kids behind, and places. -/
def Kds (c : Nat) : Nat → List Node → Prop
  | _, [] => True
  | a, n :: ms => (∀ k ∈ n.kids, (a : Int) < k ∧ k < c) ∧ Kds c (a + 1) ms
theorem fwdKids_iff (i : Nat) (l : List Int) : fwdKids i l = true ↔ ∀ k ∈ l, (i : Int) < k := by
  induction l with
  | nil => simp [fwdKids]
  | cons k l ih =>
    rw [fwdKids_cons]
    by_cases h : k ≤ i
    · rw [if_pos h]
      constructor
      · intro h2; cases h2
      · intro h2; have := h2 k (by simp); omega
    · rw [if_neg h, ih]
      constructor
      · intro h2 x hx
        rcases List.mem_cons.1 hx with rfl | hx
        · omega
        · exact h2 x hx
      · intro h2 x hx; exact h2 x (List.mem_cons_of_mem _ hx)
theorem kds_fwd {c : Nat} : ∀ {ms : List Node} {a : Nat}, Kds c a ms → fwd ms a = true
  | [], _, _ => rfl
  | n :: ms, a, h => by
    rw [fwd_cons, if_pos ((fwdKids_iff _ _).2 fun k hk => (h.1 k hk).1)]
    exact kds_fwd h.2
theorem kds_of {c : Nat} : ∀ {ms : List Node} {a : Nat}, fwd ms a = true → (∀ n ∈ ms, ∀ k ∈ n.kids, isPlace c k) → Kds c a ms
  | [], _, _, _ => trivial
  | n :: ms, a, h, hp => by
    rw [fwd_cons] at h
    by_cases h1 : fwdKids a n.kids = true
    · rw [if_pos h1] at h
      refine ⟨fun k hk => ⟨(fwdKids_iff _ _).1 h1 k hk, (hp n (by simp) k hk).2⟩, kds_of h fun m hm => hp m (List.mem_cons_of_mem _ hm)⟩
    · rw [if_neg h1] at h; cases h
/-- What of nodes reading them takes. -/
structure RdAll (ns : List Node) (lim : Lim) : Prop where
  spec : ∀ n ∈ ns, ∃ sp, oldSpec n.kind = some sp ∧ Fits n sp
  ints : ∀ n ∈ ns, ∀ x ∈ n.ints, -9223372036854775808 ≤ x ∧ x ≤ 9223372036854775807
  texts : ∀ n ∈ ns, ∀ t ∈ n.texts, t.size ≤ lim.t.toNat ∧ t.size ≤ 16777216
  kids : ∀ n ∈ ns, n.kids.length ≤ 16777216
theorem oldNodes_put {l : Bytes} {c : Nat} {lim : Lim} (hc : c ≤ 16777216) : ∀ (ms : List Node) (a ed p : Nat) (ns : List Node) (r : Bytes), RdAll ms lim → Kds c a ms → edges ms ≤ ed →
    AtP l p (ms.flatMap nodeBytes ++ r) → oldNodes l c lim ms.length a ed p 0 ns = (ns ++ ms, p + (ms.flatMap nodeBytes).length, 0)
  | [], a, ed, p, ns, r, _, _, _, _ => by simp [oldNodes]
  | n :: ms, a, ed, p, ns, r, h, hk, he, ha => by
    rw [List.flatMap_cons, List.append_assoc] at ha
    rw [edges_cons] at he
    obtain ⟨sp, hs, hf⟩ := h.spec n (by simp)
    have h1 := oldGet_put (lim := lim) (edges := ed) ⟨hs, hf, hk.1, hc, by omega, h.kids n (by simp), h.ints n (by simp), h.texts n (by simp)⟩ ha
    show oldNodes l c lim (ms.length + 1) a ed p 0 ns = _
    unfold oldNodes
    rw [if_pos rfl, h1]
    simp only
    rw [oldNodes_put hc ms (a + 1) (ed - n.kids.length) _ (ns ++ [n]) r ⟨fun m hm => h.spec m (List.mem_cons_of_mem _ hm), fun m hm => h.ints m (List.mem_cons_of_mem _ hm), fun m hm => h.texts m (List.mem_cons_of_mem _ hm), fun m hm => h.kids m (List.mem_cons_of_mem _ hm)⟩ hk.2 (by omega) ha.step]
    rw [List.flatMap_cons, List.length_append]
    simp
    omega
theorem oldNodes_inv {l : Bytes} {c : Nat} {lim : Lim} : ∀ (k a ed p : Nat) (e : Int) (ns : List Node), p ≤ l.length → (oldNodes l c lim k a ed p e ns).2.2 = 0 →
    ∃ ms, (oldNodes l c lim k a ed p e ns).1 = ns ++ ms ∧ e = 0 ∧ ms.length = k ∧ AtP l p (ms.flatMap nodeBytes ++ l.drop (oldNodes l c lim k a ed p e ns).2.1) ∧ (oldNodes l c lim k a ed p e ns).2.1 ≤ l.length ∧ Kds c a ms
  | 0, a, ed, p, e, ns, hp, h => ⟨[], by simp [oldNodes], h, rfl, AtP.self hp, hp, trivial⟩
  | k + 1, a, ed, p, e, ns, hp, h => by
    unfold oldNodes at h ⊢
    by_cases he : e = 0
    · rw [if_pos he] at h ⊢
      simp only at h ⊢
      have hb := (oldGet_bd (l := l) (p := p) (e := e) (a := a) (c := c) (edges := ed) (lim := lim) hp).1
      obtain ⟨ms, e1, e2, e3, e4, e5, e6⟩ := oldNodes_inv k _ _ _ _ _ hb h
      have h1 := oldGet_inv hp e2
      refine ⟨(oldGet l p e a c ed lim).1 :: ms, by rw [e1]; simp, he, by simp [e3], ?_, e5, h1.2.2.2, e6⟩
      rw [List.flatMap_cons, List.append_assoc, ← e4.2]
      exact h1.2.1
    · rw [if_neg he] at h; exact absurd h he
theorem size_le_textSum (t : ByteArray) : ∀ (L met : List ByteArray), t ∈ L → t ∉ met → t.size ≤ textSum L met
  | [], _, h, _ => by simp at h
  | u :: L, met, h, hm => by
    rw [textSum_cons]
    by_cases hu : u ∈ met
    · rw [if_pos hu]
      rcases List.mem_cons.1 h with rfl | h
      · exact absurd hu hm
      · exact size_le_textSum t L met h hm
    · rw [if_neg hu]
      by_cases e : t = u
      · subst e; omega
      · rcases List.mem_cons.1 h with h | h
        · exact absurd h e
        · have := size_le_textSum t L (u :: met) h (by simp [e, hm]); omega
theorem kids_le_edges {n : Node} : ∀ {ns : List Node}, n ∈ ns → n.kids.length ≤ edges ns
  | [], h => by simp at h
  | m :: ns, h => by
    rw [edges_cons]
    rcases List.mem_cons.1 h with rfl | h
    · omega
    · have := kids_le_edges h; omega
/-- What a valid scene has. -/
structure OldOk (s : Scene) (lim : Lim) : Prop where
  lr : Pl.right lim = true
  typ : (typed oldSpec s.nodes 0).1 = 0
  gr : Right s.nodes s.root
  wi : within (measure s.nodes s.root) lim = true
theorem oldValid_iff {s : Scene} {lim : Lim} : (oldValid s lim).1 = 0 ↔ OldOk s lim := by
  unfold oldValid
  constructor
  · intro h
    by_cases h1 : Pl.right lim = false
    · rw [if_pos h1] at h; simp at h
    · rw [if_neg h1] at h
      by_cases h2 : (typed oldSpec s.nodes 0).1 ≠ 0
      · rw [if_pos h2] at h; exact absurd h h2
      · rw [if_neg h2] at h
        by_cases h3 : (gCheck s.nodes s.root).1 ≠ 0
        · rw [if_pos h3] at h; exact absurd h h3
        · rw [if_neg h3] at h
          by_cases h4 : within (measure s.nodes s.root) lim = false
          · rw [if_pos h4] at h; simp at h
          · exact ⟨by simpa using h1, by simpa using h2, gCheck_ok.1 (by simpa using h3), by simpa using h4⟩
  · rintro ⟨h1, h2, h3, h4⟩
    rw [if_neg (by simp [h1]), if_neg (by simp [h2]), if_neg (by simp [gCheck_ok.2 h3]), if_neg (by simp [h4])]
theorem oldValid_zero {s : Scene} {lim : Lim} (h : (oldValid s lim).1 = 0) : oldValid s lim = (0, 0) := by
  obtain ⟨h1, h2, h3, h4⟩ := oldValid_iff.1 h
  unfold oldValid
  rw [if_neg (by simp [h1]), if_neg (by simp [h2]), if_neg (by simp [gCheck_ok.2 h3]), if_neg (by simp [h4])]
theorem OldOk.rd {s : Scene} {lim : Lim} (h : OldOk s lim) : RdAll s.nodes lim := by
  have hw : 0 ≤ lim.b ∧ _ := of_decide_eq_true h.wi
  have hr := right_bd h.lr
  refine ⟨fun n hn => ?_, fun n hn x hx => ?_, fun n hn t ht => ?_, fun n hn => ?_⟩
  · obtain ⟨sp, h1, h2⟩ := typed_ok h.typ n hn
    exact ⟨sp, h1, fieldErr_zero h2⟩
  · obtain ⟨sp, h1, h2⟩ := typed_ok h.typ n hn
    have hf := fieldErr_zero h2
    obtain ⟨hk, hi, htx, hc⟩ := oldSpec_some h1
    obtain ⟨j, hj, rfl⟩ := List.getElem_of_mem hx
    have h3 := hf.inc j hj
    have hjs : j < sp.ints.length := by rw [← hf.ints]; exact hj
    rw [List.getD_eq_getElem?_getD, List.getD_eq_getElem?_getD, List.getElem?_eq_getElem hj, List.getElem?_eq_getElem hjs] at h3
    have h4 : -140737488355328 ≤ n.ints[j] ∧ n.ints[j] ≤ 140737488355328 := inC_bd (hc _ (List.getElem_mem hjs)) h3
    omega
  · have h1 : t ∈ textsOf s.nodes := List.mem_flatMap.2 ⟨n, hn, ht⟩
    have h2 := size_le_textSum t _ [] h1 (by simp)
    have h3 : (textSum (textsOf s.nodes) [] : Int) ≤ lim.t := hw.2.2.2.2
    omega
  · have h1 := kids_le_edges hn
    have h3 : (edges s.nodes : Int) ≤ lim.e := hw.2.2.1
    omega
theorem oldScene_put {s : Scene} {lim : Lim} (h : OldOk s lim) (h0 : s.root = 0) (hf : fwd s.nodes 0 = true) : oldScene (recBytes s.nodes) lim = (s, 0) := by
  have hw : 0 ≤ lim.b ∧ _ := of_decide_eq_true h.wi
  have hr := right_bd h.lr
  have hn : (s.nodes.length : Int) ≤ lim.n := hw.2.1
  have he : (edges s.nodes : Int) ≤ lim.e := hw.2.2.1
  have hpl := h.gr.root
  rw [h0] at hpl
  unfold isPlace at hpl
  have ha : AtP (recBytes s.nodes) 0 (vPut s.nodes.length ++ (s.nodes.flatMap nodeBytes ++ [])) := by
    rw [List.append_nil]; exact AtP.self (Nat.zero_le _)
  have h1 := cUint_put (m := lim.n.toNat) ha (by omega) (by omega)
  have h2 := oldNodes_put (lim := lim) (c := s.nodes.length) (by omega) s.nodes 0 lim.e.toNat _ [] [] h.rd (kds_of hf h.gr.refs) (by omega) ha.step
  have hv := oldValid_iff.2 h
  obtain ⟨ns, ro⟩ := s
  simp only at h0 h1 h2 hpl ⊢
  subst h0
  unfold oldScene
  simp only
  rw [h1]
  simp only
  rw [if_neg (show ¬ ns.length = 0 by omega), h2]
  simp only [List.nil_append]
  have hl : 0 + (vPut ns.length).length + (ns.flatMap nodeBytes).length = (recBytes ns).length := by unfold recBytes; rw [List.length_append]; omega
  rw [hl, if_neg (by omega), if_neg (by simp [hv])]
theorem oldScene_inv {l : Bytes} {lim : Lim} (h : (oldScene l lim).2 = 0) : l = recBytes (oldScene l lim).1.nodes ∧ OldOk (oldScene l lim).1 lim ∧ (oldScene l lim).1.root = 0 ∧ fwd (oldScene l lim).1.nodes 0 = true := by
  unfold oldScene at h ⊢
  simp only at h ⊢
  have i0 := fun h => cUint_inv (l := l) (p := 0) (e := 0) (m := lim.n.toNat) (Nat.zero_le _) h
  have b0 := (cUint_bd l 0 0 lim.n.toNat (Nat.zero_le _)).2.2
  generalize cUint l 0 0 lim.n.toNat = r at *
  have i1 := oldNodes_inv (l := l) (c := r.1) (lim := lim) r.1 0 lim.e.toNat r.2.1 (if r.1 = 0 then cFail r.2.2 13 else r.2.2) [] b0
  generalize oldNodes l r.1 lim r.1 0 lim.e.toNat r.2.1 (if r.1 = 0 then cFail r.2.2 13 else r.2.2) [] = q at *
  by_cases h1 : (if q.2.1 < l.length then cFail q.2.2 8 else q.2.2) ≠ 0
  · rw [if_pos h1] at h; exact absurd h h1
  · rw [if_neg h1] at h ⊢
    by_cases h2 : (oldValid ⟨q.1, 0⟩ lim).1 ≠ 0
    · rw [if_pos h2] at h; exact absurd h h2
    · rw [if_neg h2]
      have h3 : ¬ q.2.1 < l.length ∧ q.2.2 = 0 := by
        by_cases h4 : q.2.1 < l.length
        · rw [if_pos h4] at h1; exact (cFail_zero (by simpa using h1) (by decide)).elim
        · rw [if_neg h4] at h1; exact ⟨h4, by simpa using h1⟩
      obtain ⟨ms, e1, e2, e3, e4, e5, e6⟩ := i1 h3.2
      rw [List.nil_append] at e1
      have h5 : r.2.2 = 0 := by
        split at e2
        · exact (cFail_zero e2 (by decide)).elim
        · exact e2
      have h6 := i0 h5
      have hq : l.drop q.2.1 = [] := List.drop_eq_nil_of_le (by omega)
      refine ⟨?_, oldValid_iff.1 (by simpa using h2), rfl, by rw [e1]; exact kds_fwd e6⟩
      rw [e1]
      have h7 := h6.2.1.2
      rw [List.drop_zero, e4.2, hq, List.append_nil] at h7
      rw [h7]
      unfold recBytes
      rw [e3]
theorem oldScene_err {l : Bytes} {lim : Lim} (h : (oldScene l lim).2 ≠ 0) : (oldScene l lim).1 = ⟨[], 0⟩ := by
  unfold oldScene at h ⊢
  simp only at h ⊢
  generalize cUint l 0 0 lim.n.toNat = r at *
  generalize oldNodes l r.1 lim r.1 0 lim.e.toNat r.2.1 (if r.1 = 0 then cFail r.2.2 13 else r.2.2) [] = q at *
  generalize (if q.2.1 < l.length then cFail q.2.2 8 else q.2.2) = e at *
  by_cases h1 : e ≠ 0
  · rw [if_pos h1]
  · rw [if_neg h1] at h ⊢
    by_cases h2 : (oldValid ⟨q.1, 0⟩ lim).1 ≠ 0
    · rw [if_pos h2]
    · rw [if_neg h2] at h; exact absurd rfl h
/-- A section's frame. -/
structure SecOk (s : Sec) : Prop where
  id : 1 ≤ s.id ∧ s.id ≤ 255
  pay : s.pay.length ≤ 16777216
theorem cByte_put {l : Bytes} {p : Nat} {x : UInt8} {r : Bytes} (h : AtP l p (x :: r)) : cByte l p 0 = (x.toNat, p + 1, 0) := by
  have h1 := h.len
  rw [List.length_cons] at h1
  unfold cByte
  rw [if_neg (by simp), if_pos (by omega)]
  have h2 := h.2
  rw [List.drop_eq_getElem_cons (by omega)] at h2
  have h3 := (List.cons.inj h2).1
  rw [List.getD_eq_getElem?_getD, List.getElem?_eq_getElem (by omega), h3]
  rfl
theorem cByte_inv {l : Bytes} {p : Nat} {e : Int} (h : (cByte l p e).2.2 = 0) : e = 0 ∧ AtP l p (UInt8.ofNat (cByte l p e).1 :: l.drop (cByte l p e).2.1) ∧ (cByte l p e).2.1 ≤ l.length := by
  unfold cByte at h ⊢
  by_cases he : e = 0
  · subst he
    rw [if_neg (by simp)] at h ⊢
    by_cases h1 : p < l.length
    · rw [if_pos h1]
      refine ⟨rfl, ⟨by omega, ?_⟩, by simp only; omega⟩
      simp only
      rw [List.drop_eq_getElem_cons h1, List.getD_eq_getElem?_getD, List.getElem?_eq_getElem h1]
      simp
    · rw [if_neg h1] at h; simp at h
  · rw [if_pos he] at h; exact absurd h he
theorem fSec_put {l : Bytes} {p : Nat} {s : Sec} {r : Bytes} (hs : SecOk s) (ha : AtP l p (secBytes s ++ r)) : fSec l p 0 = (s, p + (secBytes s).length, 0) := by
  obtain ⟨id, pay⟩ := s
  obtain ⟨⟨h1, h2⟩, h3⟩ := hs
  simp only at h1 h2 h3
  have hb : secBytes ⟨id, pay⟩ ++ r = UInt8.ofNat id.toNat :: (vPut pay.length ++ (pay ++ (crcPut (crc pay) ++ r))) := by unfold secBytes; simp
  rw [hb] at ha
  have e1 := cByte_put ha
  rw [u8_of (by omega)] at e1
  have a1 : AtP l (p + 1) (vPut pay.length ++ (pay ++ (crcPut (crc pay) ++ r))) := AtP.step (x := [UInt8.ofNat id.toNat]) ha
  have e2 := cUint_put (m := 16777216) a1 h3 h3
  have a2 := a1.step
  have hl := a2.len
  rw [List.length_append, List.length_append] at hl
  have e3 := cBytes_put a2
  have a3 := a2.step
  have e4 := cBytes_put a3
  have hc : (crcPut (crc pay)).length = 4 := rfl
  rw [hc] at e4
  unfold fSec
  simp only
  rw [e1]
  simp only
  rw [if_neg (by omega), e2]
  simp only
  rw [if_neg (by rw [hc] at hl; omega), e3]
  simp only
  rw [show (4 : Int) = ((4 : Nat) : Int) from rfl, e4]
  simp only
  rw [if_pos ⟨hc, crcGet_put _ (crc_lt _)⟩]
  have hlen : (secBytes ⟨id, pay⟩).length = 1 + ((vPut pay.length).length + (pay.length + 4)) := by unfold secBytes; simp [crcPut]; omega
  rw [hlen, show ((id.toNat : Nat) : Int) = id from by omega]
  simp only [Prod.mk.injEq, and_true, true_and]
  omega
theorem fSec_inv {l : Bytes} {p : Nat} {e : Int} (hp : p ≤ l.length) (h : (fSec l p e).2.2 = 0) : e = 0 ∧ SecOk (fSec l p e).1 ∧ AtP l p (secBytes (fSec l p e).1 ++ l.drop (fSec l p e).2.1) ∧ (fSec l p e).2.1 ≤ l.length := by
  unfold fSec at h ⊢
  simp only at h ⊢
  have b1 := cByte_bd l p e hp
  have i1 := fun h => @cByte_inv l p e h
  generalize cByte l p e = r1 at *
  have b2 := cUint_bd l r1.2.1 (if r1.1 = 0 then cFail r1.2.2 4 else r1.2.2) 16777216 b1.2
  have i2 := fun h => @cUint_inv l r1.2.1 (if r1.1 = 0 then cFail r1.2.2 4 else r1.2.2) 16777216 b1.2 h
  generalize cUint l r1.2.1 (if r1.1 = 0 then cFail r1.2.2 4 else r1.2.2) 16777216 = r2 at *
  have b3 := cBytes_bd l r2.2.1 (if r2.2.2 = 0 ∧ (l.length : Int) - r2.2.1 < r2.1 + 4 then 2 else r2.2.2) r2.1 b2.2.2
  have i3 := fun h => @cBytes_inv l r2.2.1 (if r2.2.2 = 0 ∧ (l.length : Int) - r2.2.1 < r2.1 + 4 then 2 else r2.2.2) r2.1 b2.2.2 h
  generalize cBytes l r2.2.1 (if r2.2.2 = 0 ∧ (l.length : Int) - r2.2.1 < r2.1 + 4 then 2 else r2.2.2) r2.1 = r3 at *
  have i4 := fun h => @cBytes_inv l r3.2.1 r3.2.2 4 b3.2 h
  rw [show ((4 : Nat) : Int) = (4 : Int) from rfl] at i4
  generalize cBytes l r3.2.1 r3.2.2 4 = r4 at *
  by_cases hc : r4.1.length = 4 ∧ crcGet r4.1 = crc r3.1
  · rw [if_pos hc] at h
    obtain ⟨j1, j2, j3, j4⟩ := i4 h
    obtain ⟨k1, k2, k3, k4⟩ := i3 j1
    have h2 : r2.2.2 = 0 := by
      split at k1
      · cases k1
      · exact k1
    obtain ⟨m1, m2, m3⟩ := i2 h2
    have h1 : ¬ r1.1 = 0 ∧ r1.2.2 = 0 := by
      by_cases h5 : r1.1 = 0
      · rw [if_pos h5] at m1; exact (cFail_zero m1 (by decide)).elim
      · rw [if_neg h5] at m1; exact ⟨h5, m1⟩
    obtain ⟨n1, n2, n3⟩ := i1 h1.2
    refine ⟨n1, ⟨by simp only; omega, by simp only; omega⟩, ?_, j3⟩
    have hs : secBytes ⟨r1.1, r3.1⟩ ++ l.drop r4.2.1 = UInt8.ofNat r1.1 :: (vPut r2.1 ++ (r3.1 ++ (r4.1 ++ l.drop r4.2.1))) := by
      have h6 := crcPut_get r4.1 hc.1
      rw [hc.2] at h6
      unfold secBytes
      simp only [Int.toNat_natCast, List.cons_append, List.append_assoc]
      rw [k4, ← h6]
    rw [hs, ← j2.2, ← k2.2, ← m2.2]
    exact n2
  · rw [if_neg hc] at h; exact (cFail_zero h (by decide)).elim
theorem fGo_put {l : Bytes} : ∀ (ss : List Sec) (k p : Nat) (acc : List Sec), ss.length ≤ k → (∀ s ∈ ss, SecOk s) → AtP l p (ss.flatMap secBytes) → fGo l k p 0 acc = (0, acc ++ ss)
  | [], k, p, acc, _, _, ha => by
    have := ha.len
    rw [fGo_end l k p 0 acc (by simp at this; omega)]; simp
  | s :: ss, 0, p, acc, h, _, _ => by simp at h
  | s :: ss, k + 1, p, acc, h, hs, ha => by
    rw [List.flatMap_cons] at ha
    have h1 := ha.len
    have h2 : 0 < (secBytes s).length := by unfold secBytes; simp
    rw [List.length_append] at h1
    rw [fGo_step l k p 0 acc ⟨rfl, by omega⟩, fSec_put (hs s (by simp)) ha]
    simp only
    rw [fGo_put ss k _ _ (by simpa using h) (fun x hx => hs x (List.mem_cons_of_mem _ hx)) ha.step]
    simp
theorem fGo_inv {l : Bytes} : ∀ (k p : Nat) (e : Int) (acc : List Sec), p ≤ l.length → (fGo l k p e acc).1 = 0 → ∃ ss, (fGo l k p e acc).2 = acc ++ ss ∧ e = 0 ∧ ss.length ≤ k ∧ (∀ s ∈ ss, SecOk s) ∧ AtP l p (ss.flatMap secBytes)
  | k, p, e, acc, hp, h => by
    by_cases h1 : e = 0 ∧ p < l.length
    · match k with
      | 0 => rw [fGo_full l p e acc h1] at h; simp at h
      | k + 1 =>
        rw [fGo_step l k p e acc h1] at h ⊢
        have hb := fSec_bd l p e hp
        obtain ⟨ss, e1, e2, e3, e4, e5⟩ := fGo_inv k _ _ _ hb h
        have h2 := fSec_inv hp e2
        refine ⟨(fSec l p e).1 :: ss, by rw [e1]; simp, h1.1, by simp; omega, ?_, ?_⟩
        · intro s hs
          rcases List.mem_cons.1 hs with rfl | hs
          · exact h2.2.1
          · exact e4 s hs
        · rw [List.flatMap_cons, ← e5.2]; exact h2.2.2.1
    · rw [fGo_end l k p e acc h1] at h ⊢
      have he : e = 0 := h
      have : p = l.length := by omega
      exact ⟨[], by simp, he, by simp, by simp, ⟨hp, by rw [List.drop_eq_nil_of_le (by omega)]; rfl⟩⟩
theorem isPre_iff {m l : Bytes} : isPre m l = true ↔ m ++ l.drop m.length = l := by
  unfold isPre
  rw [List.isPrefixOf_iff_prefix]
  constructor
  · rintro ⟨r, rfl⟩; rw [List.drop_left]
  · intro h; exact ⟨_, h⟩
theorem fGet_put {mg : Bytes} {v : Nat} {ss : List Sec} (hv : 1 ≤ v ∧ v ≤ 255) (h8 : ss.length ≤ 8) (hs : ∀ s ∈ ss, SecOk s) : fGet mg (frameBytes mg v ss) = (v, ss, 0) := by
  have hd : (frameBytes mg v ss).drop mg.length = UInt8.ofNat v :: ss.flatMap secBytes := by unfold frameBytes; rw [List.drop_left]
  have hp : isPre mg (frameBytes mg v ss) = true := isPre_iff.2 (by rw [hd]; rfl)
  unfold fGet
  rw [if_pos hp]
  simp only
  rw [hd]
  have ha : AtP (UInt8.ofNat v :: ss.flatMap secBytes) 0 (UInt8.ofNat v :: ss.flatMap secBytes) := AtP.self (Nat.zero_le _)
  rw [cByte_put ha, u8_of (by omega)]
  simp only
  have a1 : AtP (UInt8.ofNat v :: ss.flatMap secBytes) (0 + 1) (ss.flatMap secBytes) := AtP.step (x := [UInt8.ofNat v]) ha
  rw [if_neg (show ¬ v = 0 by omega), fGo_put ss 8 _ [] h8 hs a1]
  simp
theorem fGet_inv {mg l : Bytes} (h : (fGet mg l).2.2 = 0) : (1 ≤ (fGet mg l).1 ∧ (fGet mg l).1 ≤ 255) ∧ (fGet mg l).2.1.length ≤ 8 ∧ (∀ s ∈ (fGet mg l).2.1, SecOk s) ∧ l = frameBytes mg (fGet mg l).1 (fGet mg l).2.1 := by
  unfold fGet at h ⊢
  by_cases hp : isPre mg l = true
  · rw [if_pos hp] at h ⊢
    simp only at h ⊢
    have b1 := cByte_bd (l.drop mg.length) 0 0 (Nat.zero_le _)
    have i1 := fun h => @cByte_inv (l.drop mg.length) 0 0 h
    generalize cByte (l.drop mg.length) 0 0 = r at *
    have i2 := fGo_inv (l := l.drop mg.length) 8 r.2.1 (if r.1 = 0 then cFail r.2.2 7 else r.2.2) [] b1.2
    generalize fGo (l.drop mg.length) 8 r.2.1 (if r.1 = 0 then cFail r.2.2 7 else r.2.2) [] = q at *
    by_cases hq : q.1 = 0
    · rw [if_pos hq]
      obtain ⟨ss, e1, e2, e3, e4, e5⟩ := i2 hq
      rw [List.nil_append] at e1
      have h1 : ¬ r.1 = 0 ∧ r.2.2 = 0 := by
        by_cases h5 : r.1 = 0
        · rw [if_pos h5] at e2; exact (cFail_zero e2 (by decide)).elim
        · rw [if_neg h5] at e2; exact ⟨h5, e2⟩
      have h2 := i1 h1.2
      simp only
      rw [e1]
      refine ⟨by omega, e3, e4, ?_⟩
      have h3 := h2.2.1.2
      rw [List.drop_zero, e5.2] at h3
      unfold frameBytes
      rw [← h3]
      exact (isPre_iff.1 hp).symm
    · rw [if_neg hq] at h; exact absurd h hq
  · rw [if_neg hp] at h; simp at h
theorem oldLoad_err {l : Bytes} {lim : Lim} (h : (oldLoad l lim).2 ≠ 0) : (oldLoad l lim).1 = ⟨[], 0⟩ := by
  unfold oldLoad at h ⊢
  split
  · rfl
  · rename_i h1
    rw [if_neg h1] at h
    split
    · rfl
    · rename_i h2
      rw [if_neg h2] at h
      simp only at h ⊢
      split
      · rfl
      · rename_i h3
        rw [if_neg h3] at h
        split
        · rfl
        · rename_i h4
          rw [if_neg h4] at h
          unfold oldOne at h ⊢
          split
          · rename_i s hs
            simp only [hs] at h
            split
            · rfl
            · rename_i h5
              rw [if_neg h5] at h
              exact oldScene_err h
          · rfl
theorem mag_len : mag.length = 4 := rfl
/-- What is loaded: valid, forward, saved as it was. -/
theorem oldLoad_ok {l : Bytes} {lim : Lim} (h : (oldLoad l lim).2 = 0) : (oldValid (oldLoad l lim).1 lim) = (0, 0) ∧ oldIs (oldLoad l lim).1 = true ∧ oldSave (oldLoad l lim).1 lim = (l, 0) := by
  unfold oldLoad at h ⊢
  by_cases h1 : Pl.right lim = false
  · rw [if_pos h1] at h; simp at h
  · rw [if_neg h1] at h ⊢
    by_cases h2 : lim.b < l.length
    · rw [if_pos h2] at h; simp at h
    · rw [if_neg h2] at h ⊢
      simp only at h ⊢
      by_cases h3 : (fGet mag l).2.2 ≠ 0
      · rw [if_pos h3] at h; exact absurd h h3
      · rw [if_neg h3] at h ⊢
        have hf := fGet_inv (by simpa using h3)
        by_cases h4 : (fGet mag l).1 ≠ 1
        · rw [if_pos h4] at h; simp at h
        · rw [if_neg h4] at h ⊢
          have hv : (fGet mag l).1 = 1 := by simpa using h4
          rw [hv] at hf
          generalize (fGet mag l).2.1 = secs at *
          unfold oldOne at h ⊢
          rcases secs with _ | ⟨s, _ | ⟨t, r⟩⟩
          · simp at h
          · simp only at h ⊢
            by_cases h5 : s.id ≠ 1
            · rw [if_pos h5] at h; simp at h
            · rw [if_neg h5] at h ⊢
              obtain ⟨g1, g2, g3, g4⟩ := oldScene_inv h
              generalize (oldScene s.pay lim).1 = sc at *
              have hval := oldValid_zero (oldValid_iff.2 g2)
              have his : oldIs sc = true := by
                unfold oldIs
                rw [if_neg (by simp [gCheck_ok.2 g2.gr]), if_neg (by simp [g3]), g4]
              refine ⟨hval, his, ?_⟩
              have hs : s = ⟨1, recBytes sc.nodes⟩ := by
                obtain ⟨i, p⟩ := s
                simp only at h5 g1
                have : i = 1 := by simpa using h5
                rw [this, g1]
              have hsec := hf.2.2.1 s (by simp)
              have hfile : oldFile sc.nodes = (l, 0) := by
                unfold oldFile framePut
                rw [← hs, if_pos (by simp [hsec.pay]), ← hf.2.2.2]
              unfold oldSave
              rw [hval, his, hfile, if_neg (by simp), if_neg (by simp), if_neg (by simp; omega)]
          · simp at h
theorem oldSave_err {s : Scene} {lim : Lim} (h : (oldSave s lim).2 ≠ 0) : (oldSave s lim).1 = [] := by
  unfold oldSave at h ⊢
  repeat' split
  all_goals first | rfl | simp_all
/-- What is saved: loaded as it was. -/
theorem oldSave_ok {s : Scene} {lim : Lim} (h : (oldSave s lim).2 = 0) : oldLoad (oldSave s lim).1 lim = (s, 0) ∧ ((oldSave s lim).1.length : Int) ≤ lim.b := by
  unfold oldSave at h ⊢
  by_cases h1 : (oldValid s lim).1 ≠ 0
  · rw [if_pos h1] at h; exact absurd h h1
  · rw [if_neg h1] at h ⊢
    have hok := oldValid_iff.1 (by simpa using h1)
    by_cases h2 : oldIs s = false
    · rw [if_pos h2] at h; simp at h
    · rw [if_neg h2] at h ⊢
      by_cases h3 : (oldFile s.nodes).2 ≠ 0 ∨ lim.b < ((oldFile s.nodes).1.length : Int)
      · rw [if_pos h3] at h; simp at h
      · rw [if_neg h3]
        have h4 : (oldFile s.nodes).2 = 0 := Classical.byContradiction fun e => h3 (.inl e)
        have h5 : ¬ lim.b < ((oldFile s.nodes).1.length : Int) := fun e => h3 (.inr e)
        have his : s.root = 0 ∧ fwd s.nodes 0 = true := by
          have h2 : oldIs s = true := by simpa using h2
          unfold oldIs at h2
          rw [if_neg (by simp [gCheck_ok.2 hok.gr])] at h2
          by_cases h6 : s.root ≠ 0
          · rw [if_pos h6] at h2; cases h2
          · rw [if_neg h6] at h2; exact ⟨by simpa using h6, h2⟩
        have hpay : (recBytes s.nodes).length ≤ 16777216 := by
          unfold oldFile framePut at h4
          split at h4
          · rename_i h7; simpa using h7
          · simp at h4
        have hfile : oldFile s.nodes = (frameBytes mag 1 [⟨1, recBytes s.nodes⟩], 0) := by
          unfold oldFile framePut
          rw [if_pos (by simpa using hpay)]
        rw [hfile] at h5 ⊢
        simp only at h5 ⊢
        refine ⟨?_, by omega⟩
        unfold oldLoad
        rw [if_neg (by simp [hok.lr]), if_neg h5]
        have hg := fGet_put (mg := mag) (v := 1) (ss := [⟨1, recBytes s.nodes⟩]) (by omega) (by simp) (by
          intro x hx
          obtain rfl : x = ⟨1, recBytes s.nodes⟩ := by simpa using hx
          exact ⟨by simp, hpay⟩)
        rw [hg]
        simp only
        rw [if_neg (by simp), if_neg (by simp)]
        unfold oldOne
        simp only
        rw [if_neg (by simp)]
        exact oldScene_put hok his.1 his.2
end Go.Proofs.YtdejljgoebcmpaaDoor.Pl
/- A region that draws its order and makes memory alone: what each operation yields, said of it alone, lasts. No program in sight. -/
namespace Go.Proofs.YtdejljgoebcmpaaDoor
open Go.RowKit
theorem putL_undone (l : List (Nat × Option Tmp)) (L : Nat → Bool) (v : Nat → Value) (a : Act) (t : Tmp) (h : ∀ p ∈ l, p.2 = some t → L p.1 = false) : (putL l L v a).eval (.tmp t) = a.eval (.tmp t) := by
  induction l generalizing a with
  | nil => rfl
  | cons p r ih =>
    obtain ⟨i, d⟩ := p
    unfold putL
    rw [ih _ (fun p hp => h p (List.mem_cons_of_mem _ hp))]
    by_cases hd : d = some t
    · rw [h (i, d) (by simp) hd]; rfl
    · split
      · exact eval_put_other hd
      · rfl
/-- Operation j waits for operation i. -/
def leads (ops : Array Oper) : Nat → Nat → Nat → Bool
  | 0, j, i => j == i
  | n + 1, j, i => j == i || (match ops[j]? with | some o => o.after.toList.any fun e => Region.binds .any e && leads ops n e.on i | none => false)
theorem leads_not {ops : Array Oper} {L : Nat → Bool} {i : Nat} (hL : L i = false) (hC : ∀ j o', ops[j]? = some o' → L j = true → ∀ e ∈ o'.after.toList, Region.binds .any e = true → L e.on = true) : ∀ n j, leads ops n j i = true → L j = false
  | 0, j, h => by
    have : j = i := by simpa [leads] using h
    subst this; exact hL
  | n + 1, j, h => by
    unfold leads at h
    rw [Bool.or_eq_true] at h
    rcases h with h | h
    · have : j = i := by simpa using h
      subst this; exact hL
    · cases ho : ops[j]? with
      | none => rw [ho] at h; cases h
      | some o =>
        rw [ho] at h
        simp only [List.any_eq_true, Bool.and_eq_true] at h
        obtain ⟨e, he, hb, hl⟩ := h
        cases hj : L j
        · rfl
        · have h1 := hC j o ho hj e he hb
          rw [leads_not hL hC n e.on hl] at h1
          cases h1
theorem wp_region_b {P : Program} {id : Nat} {ops : Array Oper} {Q : Exit → Act → World → Prop} {a : Act} {w : World} (ds : List (Nat × Option Tmp)) (hds : dsts ops = ds) (hm : P.follows .mixedOrders = true) (hok : regionOk ops a.tmps.size = true)
    (R : Nat → Value → World → Prop) (hR : ∀ j x w1 w2, R j x w1 → Below w1.heap.size w1 w2 → R j x w2)
    (hs : ∀ (v : Nat → Value) (b : Act) (w' : World) (i : Nat) (o : Oper), ops[i]? = some o → Below w.heap.size w w' →
      (∀ e ∈ o.after.toList, Region.binds .any e = true → R e.on (v e.on) w' ∧ ∀ o' t, ops[e.on]? = some o' → o'.dst = some t → b.tmps[t]?.getD undef = v e.on) →
      (∀ t, ((dsts ops).all fun p => p.2 != some t || leads ops ops.size p.1 i) = true → b.tmps[t]?.getD undef = a.tmps[t]?.getD undef) →
      o.wp P b w' (fun b' w'' => ∃ x, b' = b.put o.dst x ∧ Below w'.heap.size w' w'' ∧ R i x w'') Q)
    (hf : ∀ (v : Nat → Value) w', Below w.heap.size w w' → (∀ j, j < ops.size → R j (v j) w') → Q .normal (putL ds (fun _ => true) v a) w') : (Code.region id ops true).wp P Q a w := by
  subst hds
  have hA := dsts_apart hok
  refine wp_region_any hm ?_
  refine wpAny_inv hok (fun L b w' => (∀ j o', ops[j]? = some o' → L j = true → ∀ e ∈ o'.after.toList, Region.binds .any e = true → L e.on = true) ∧ ∃ v, b = putL (dsts ops) L v a ∧ Below w.heap.size w w' ∧ ∀ j, L j = true → R j (v j) w') ?_ ?_ _ _ _ _ (by simp) ?_ ?_
  · rintro L b w' i o ho hL hd ⟨hC, v, rfl, hW, hRL⟩
    refine Oper.wp_mono ?_ (hs v _ w' i o ho hW (fun e he hb => ⟨hRL _ (hd e he hb), fun o' t hj ht => ?_⟩) (fun t ht => ?_))
    · rintro b' w'' ⟨x, rfl, hB, hx⟩
      refine ⟨fun j o' hj hLj e he hb => ?_, fun j => if j = i then x else v j, ?_, hW.trans (hB.mono hW.size), fun j hj => ?_⟩
      · have : L e.on = true := by
          by_cases e1 : j = i
          · subst e1; rw [ho] at hj; cases hj; exact hd e he hb
          · have h1 : (j == i) = false := by simpa using e1
            exact hC j o' hj (by simpa [h1] using hLj) e he hb
        simp [this]
      · exact putL_step _ hA L v a i o.dst (dsts_mem ho) hL x
      · by_cases e : j = i
        · subst e; simpa using hx
        · have h1 : (j == i) = false := by simpa using e
          simp only [if_neg e]
          exact hR j _ _ _ (hRL j (by simpa [h1] using hj)) hB
    · refine (eval_get _ t).symm.trans (putL_done _ hA L v a e.on t ?_ (hd e he hb) ((regionOk_op hok hj).2.2 t ht))
      have := dsts_mem hj
      rwa [ht] at this
    · refine (eval_get _ t).symm.trans ((putL_undone _ L v a t fun p hp h2 => ?_).trans (eval_get _ t))
      rw [List.all_eq_true] at ht
      have h3 := ht p hp
      rw [Bool.or_eq_true] at h3
      rcases h3 with h3 | h3
      · rw [h2] at h3; simp at h3
      · exact leads_not hL hC _ _ h3
  · rintro L b w' ⟨_, v, rfl, hW, hRL⟩ hall
    have : putL (dsts ops) L v a = putL (dsts ops) (fun _ => true) v a := putL_congr _ _ fun p hp => by
      unfold dsts at hp
      obtain ⟨i, hi, rfl⟩ := List.mem_map.1 hp
      exact ⟨hall i (by simpa using hi), rfl⟩
    rw [this]
    exact hf v w' hW fun j hj => hRL j (hall j hj)
  · have := List.length_filter_le (fun j => !(Array.replicate ops.size false).getD j false) (List.range ops.size)
    simpa using this
  · have e : (fun j => (Array.replicate ops.size false).getD j false) = fun _ => false := by
      funext j
      simp [Array.getD]
    rw [e]
    refine ⟨(fun j _ _ h => by cases h), fun _ => undef, ?_, (Below.refl _ _).drew, fun j hj => by cases hj⟩
    have : ∀ l b, putL l (fun _ => false) (fun _ => undef) b = b := by
      intro l
      induction l with
      | nil => intro b; rfl
      | cons p r ih => intro b; obtain ⟨i, d⟩ := p; unfold putL; simpa using ih b
    rw [this]
end Go.Proofs.YtdejljgoebcmpaaDoor
/- The references: sizes. -/
namespace Go.Proofs.YtdejljgoebcmpaaDoor
open Go.RowKit

set_option maxHeartbeats 2000000 in
set_option maxRecDepth 100000 in
theorem r09_edges (v : Value) (root : Int) (l : List Pl.Node) (w : World) (hv : RNodes w v l) (hl : l.length ≤ 16777216) (hk : ∀ n ∈ l, n.kids.length ≤ 16777216) :
    Calls Tryd.prog 14 #[.agg #[v, .int .i64 root]] w fun en w' => en = .returned (.int .i64 (Pl.edges l)) ∧ Below w.heap.size w w' := by
  obtain ⟨A, c, rfl, hA⟩ := hv
  have HA := Lib.hid hA
  have HK := Lib.hid hk
  clear hA hk
  have HS0 := Lib.hid (ScS.box w (.slice A l.length c) root)
  go_enter Tryd.func14, Tryd.ntmps14
  go_upto_region 1 with (fail)
  generalize w.alloc (.cells #[.slice A l.length c, .int .i64 root] 24) = w0 at *
  go_wp2_with fail
  go_loopw [3, 4] (fun s i wr => ∃ k : Nat, k ≤ l.length ∧ i = .int .i64 k ∧ s = .int .i64 (Pl.edges (l.take k) : Nat) ∧ Hid (ScS w w.heap.size (.slice A l.length c) root wr)) (fun _ i _ => l.length - (intOf i).toNat)
  case atStart => exact ⟨0, by omega, rfl, rfl, HS0⟩
  case round =>
    obtain ⟨k, hkl, rfl, rfl, hS⟩ := hrel
    have hb := hS.out.bel
    have c0 := hS.out.c0
    by_cases hlt : k < l.length
    · obtain ⟨ad, hAe, hc⟩ := HA.out (by omega)
      subst hAe
      obtain ⟨vi, vt, vk, h0, h1, h2, h3, hi, ht, hkk⟩ := (hc k hlt)
      replace h0 := (hb.cell (World.block_lt_of_cell? w _ h0)).trans h0
      replace h1 := (hb.cell (World.block_lt_of_cell? w _ h1)).trans h1
      replace h2 := (hb.cell (World.block_lt_of_cell? w _ h2)).trans h2
      replace h3 := (hb.cell (World.block_lt_of_cell? w _ h3)).trans h3
      have tl : decide ((k : Int) < l.length) = true := decide_eq_true (by omega)
      have hE := edges_take l k hlt
      have hle := edges_le l k 16777216 HK.out
      have hn := HK.out _ (List.getElem_mem hlt)
      obtain ⟨VA, vc, rfl, _⟩ := hkk
      obtain ⟨TA, tc, rfl, _⟩ := ht
      obtain ⟨IA, ic, rfl, _⟩ := hi
      have hmul : k * 16777216 ≤ 16777216 * 16777216 := Nat.mul_le_mul_right _ (by omega)
      clear hc
      generalize l[k] = x at *
      have HE := Lib.hid hE
      clear hE
      generalize Pl.edges (l.take k) = S at *
      go_wp2_with fail
      go_roundw
      case rel => exact ⟨k + 1, by omega, by go_num, by rw [HE.out]; go_num, hS⟩
      case measure => simp only [intOf]; omega
    · obtain rfl : k = l.length := by omega
      rw [List.take_length]
      go_wp2_with fail
      go_ret
      exact ⟨rfl, hb⟩

set_option maxRecDepth 100000 in
theorem r12_wide (w : World) :
    Calls Tryd.prog 12 #[] w fun en w' => en = .returned (limV Pl.limAll) ∧ Below w.heap.size w w' := by
  go_enter Tryd.func12, Tryd.ntmps12
  go_wp2_with fail
  exact bodyPost_ret (v := .agg #[.int .i64 16777216, .int .i64 16777216, .int .i64 16777216, .int .i64 16777216, .int .i64 16777216]) (results_cell_row rfl _ _ w.heap.size 26 _ (0, 0) _ rfl (heap_alloc_new w _) Tryd.underlying26 rfl rfl) rfl ⟨rfl, (Below.refl _ _).alloc (Nat.le_refl _) _⟩

/-- Some truth value; if it is false, S. -/
def SomeB (S : Prop) (en : Ending) : Prop := ∃ q : Bool, en = .returned (.bool q) ∧ (q = false → S)
theorem SomeB.yes {S : Prop} : SomeB S (.returned (.bool true)) := ⟨true, rfl, fun h => by cases h⟩
theorem SomeB.no {S : Prop} (h : S) : SomeB S (.returned (.bool false)) := ⟨false, rfl, fun _ => h⟩
namespace Pl
/-- A node that isn't great; nodes that aren't. -/
structure Small (n : Node) : Prop where
  ints : n.ints.length ≤ 100
  texts : n.texts.length ≤ 100
  kids : n.kids.length ≤ 300
  size : ∀ t ∈ n.texts, t.size ≤ 500
structure SmallL (l : List Node) : Prop where
  len : l.length ≤ 60
  edges : edges l ≤ 300
  each : ∀ n ∈ l, Small n
end Pl
set_option maxHeartbeats 2000000 in
set_option maxRecDepth 100000 in
/-- ref08.Great: some answer. -/
theorem r08_great (kd : Int) (vi vt vk : Value) (n : Pl.Node) (w : World) (hi : RNums w vi n.ints) (ht : RStrs w vt n.texts) (hk : RNums w vk n.kids) (hl : n.texts.length ≤ 16777216) :
    Calls Tryd.prog 15 #[.agg #[.int .i64 kd, vi, vt, vk]] w fun en w' => SomeB (Pl.Small n) en ∧ Below w.heap.size w w' := by
  obtain ⟨IA, ic, rfl, _⟩ := hi
  obtain ⟨TA, tc, rfl, ht2⟩ := ht
  obtain ⟨KA, kc, rfl, _⟩ := hk
  have HT := Lib.hid ht2
  have hB : Hid ((w.alloc (.cells #[.int .i64 kd, .slice IA n.ints.length ic, .slice TA n.texts.length tc, .slice KA n.kids.length kc] 43)).heap[w.heap.size]? = some (.cells #[.int .i64 kd, .slice IA n.ints.length ic, .slice TA n.texts.length tc, .slice KA n.kids.length kc] 43 (0, 0)) ∧ Below w.heap.size w (w.alloc (.cells #[.int .i64 kd, .slice IA n.ints.length ic, .slice TA n.texts.length tc, .slice KA n.kids.length kc] 43))) := ⟨heap_alloc_new w _, (Below.refl _ _).alloc (Nat.le_refl _) _⟩
  clear ht2
  go_enter Tryd.func15, Tryd.ntmps15
  go_upto_region 1 with (fail)
  generalize w.alloc (.cells #[.int .i64 kd, .slice IA n.ints.length ic, .slice TA n.texts.length tc, .slice KA n.kids.length kc] 43) = w0 at *
  obtain ⟨c0, c1, c2, c3⟩ := cells4 hB.out.1
  by_cases h1 : (100 : Int) < n.ints.length
  · have t1 : decide ((100 : Int) < n.ints.length) = true := decide_eq_true h1
    go_wp2_with fail
    go_ret
    exact ⟨SomeB.yes, hB.out.2⟩
  have t1 : decide ((100 : Int) < n.ints.length) = false := decide_eq_false h1
  by_cases h2 : (100 : Int) < n.texts.length
  · have t2 : decide ((100 : Int) < n.texts.length) = true := decide_eq_true h2
    go_wp2_with fail
    go_ret
    exact ⟨SomeB.yes, hB.out.2⟩
  have t2 : decide ((100 : Int) < n.texts.length) = false := decide_eq_false h2
  by_cases h3 : (300 : Int) < n.kids.length
  · have t3 : decide ((300 : Int) < n.kids.length) = true := decide_eq_true h3
    go_wp2_with fail
    go_ret
    exact ⟨SomeB.yes, hB.out.2⟩
  have t3 : decide ((300 : Int) < n.kids.length) = false := decide_eq_false h3
  have HN : Hid (n.ints.length ≤ 100 ∧ n.texts.length ≤ 100 ∧ n.kids.length ≤ 300) := by unfold Hid; omega
  clear h1 h2 h3
  have hw := Lib.hid (Below.refl w.heap.size w0)
  go_wp2_with fail
  go_loopw [3] (fun i wr => ∃ k : Nat, k ≤ n.texts.length ∧ i = .int .i64 k ∧ Hid (∀ j, j < k → ∀ h : j < n.texts.length, n.texts[j].size ≤ 500) ∧ Hid (wr.heap[w.heap.size]? = some (.cells #[.int .i64 kd, .slice IA n.ints.length ic, .slice TA n.texts.length tc, .slice KA n.kids.length kc] 43 (0, 0)) ∧ Below w.heap.size w wr)) (fun i _ => n.texts.length - (intOf i).toNat)
  case atStart => exact ⟨0, by omega, rfl, fun j hj => by omega, hB⟩
  case round =>
    clear hB c0 c1 c2 c3 hw
    obtain ⟨k, hk, rfl, HS, hB⟩ := hrel
    obtain ⟨c0, c1, c2, c3⟩ := cells4 hB.out.1
    by_cases hlt : k < n.texts.length
    · have tl : decide ((k : Int) < n.texts.length) = true := decide_eq_true (by omega)
      obtain ⟨ad, rfl, hc⟩ := HT.out (by omega)
      have h0 := (hB.out.2.cell (World.block_lt_of_cell? w _ (hc k hlt))).trans (hc k hlt)
      have hlt2 : Hid (k < n.texts.length) := hlt
      clear hc
      have HX : Hid (∀ j, j < k + 1 → n.texts[k].size ≤ 500 → ∀ h : j < n.texts.length, n.texts[j].size ≤ 500) := fun j hj hx h => by
        by_cases e : j = k
        · subst e; exact hx
        · exact HS.out j (by omega) h
      generalize n.texts[k] = x at *
      by_cases hx : (500 : Int) < x.size
      · have tx : decide ((500 : Int) < x.size) = true := decide_eq_true hx
        go_wp2_with fail
        go_ret
        exact ⟨SomeB.yes, hB.out.2⟩
      · have tx : decide ((500 : Int) < x.size) = false := decide_eq_false hx
        have HX2 : Hid (∀ j, j < k + 1 → ∀ h : j < n.texts.length, n.texts[j].size ≤ 500) := fun j hj h => HX.out j hj (by omega) h
        go_wp2_with fail
        go_roundw
        case rel => exact ⟨k + 1, by omega, by go_num, HX2, hB⟩
        case measure => simp only [intOf]; omega
    · have tl : decide ((k : Int) < n.texts.length) = false := decide_eq_false (by omega)
      go_wp2_with fail
      go_ret
      exact ⟨SomeB.no ⟨HN.out.1, HN.out.2.1, HN.out.2.2, fun t ht => by
        obtain ⟨j, hj, rfl⟩ := List.getElem_of_mem ht
        exact HS.out j (by omega) hj⟩, hB.out.2⟩
set_option maxHeartbeats 2000000 in
set_option maxRecDepth 100000 in
/-- ref09.Great: some answer. -/
theorem r09_great (v : Value) (root : Int) (l : List Pl.Node) (w : World) (hv : RNodes w v l) (hs : Pl.Sm l) :
    Calls Tryd.prog 6 #[.agg #[v, .int .i64 root]] w fun en w' => SomeB (Pl.SmallL l) en ∧ Below w.heap.size w w' := by
  have HV := Lib.hid hv
  have HSm := Lib.hid hs
  have hll := hs.len
  obtain ⟨A, c, rfl, hA⟩ := hv
  have HA := Lib.hid hA
  have HE : Hid (∀ w1, Below w.heap.size w w1 → Calls Tryd.prog 14 #[.agg #[.slice A l.length c, .int .i64 root]] w1 fun en w' => en = .returned (.int .i64 (Pl.edges l)) ∧ Below w1.heap.size w1 w') := fun w1 hb =>
    r09_edges _ root l w1 (HV.out.below hb) (by have := hs.len; omega) (fun n hn => by have := hs.kids n hn; omega)
  have HS0 := Lib.hid (ScS.box w (.slice A l.length c) root)
  clear hA hs
  go_enter Tryd.func6, Tryd.ntmps6
  go_upto_region 1 with (fail)
  generalize w.alloc (.cells #[.slice A l.length c, .int .i64 root] 24) = w0 at *
  obtain ⟨E, hE⟩ : ∃ E, E = Pl.edges l := ⟨_, rfl⟩
  rw [← hE] at HE
  have HEE := Lib.hid hE
  clear hE
  have c0 := HS0.out.c0
  have c1 := HS0.out.c1
  by_cases h1 : (60 : Int) < l.length
  · have t1 : decide ((60 : Int) < l.length) = true := decide_eq_true h1
    go_wp2_with fail
    go_ret
    exact ⟨SomeB.yes, HS0.out.bel⟩
  have t1 : decide ((60 : Int) < l.length) = false := decide_eq_false h1
  go_wp2_with fail
  refine (HE.out _ HS0.out.bel).mono ?_
  rintro en w1 ⟨rfl, hb1⟩
  have HS1 := Lib.hid (HS0.out.step hb1)
  clear hb1 HS0 c0 c1 HE
  by_cases h2 : (300 : Int) < E
  · have t2 : decide ((300 : Int) < E) = true := decide_eq_true h2
    go_wp2_with fail
    go_ret
    exact ⟨SomeB.yes, HS1.out.bel⟩
  have t2 : decide ((300 : Int) < E) = false := decide_eq_false h2
  have HN : Hid (l.length ≤ 60 ∧ Pl.edges l ≤ 300) := by have := HEE.out; unfold Hid; omega
  clear h2 h1
  go_wp2_with fail
  go_loopw [3] (fun i wr => ∃ k : Nat, k ≤ l.length ∧ i = .int .i64 k ∧ Hid (∀ j, j < k → ∀ h : j < l.length, Pl.Small l[j]) ∧ Hid (ScS w w.heap.size (.slice A l.length c) root wr)) (fun i _ => l.length - (intOf i).toNat)
  case atStart => exact ⟨0, by omega, rfl, fun j hj => by omega, HS1⟩
  case round =>
    clear HS1
    obtain ⟨k, hk, rfl, HS, hS⟩ := hrel
    have c0 := hS.out.c0
    have hb := hS.out.bel
    by_cases hlt : k < l.length
    · have tl : decide ((k : Int) < l.length) = true := decide_eq_true (by omega)
      have tl2 : Hid (k < l.length) := hlt
      obtain ⟨ad, hAe, hc⟩ := HA.out (by omega)
      subst hAe
      obtain ⟨vi, vt, vk, h0, h1, h2, h3, hi, ht, hkk⟩ := (hc k hlt)
      replace h0 := (hb.cell (World.block_lt_of_cell? w _ h0)).trans h0
      replace h1 := (hb.cell (World.block_lt_of_cell? w _ h1)).trans h1
      replace h2 := (hb.cell (World.block_lt_of_cell? w _ h2)).trans h2
      replace h3 := (hb.cell (World.block_lt_of_cell? w _ h3)).trans h3
      have hbb := hb
      have HG : Hid (∀ w1, Below w.heap.size w w1 → Calls Tryd.prog 15 #[.agg #[.int .i64 l[k].kind, vi, vt, vk]] w1 fun en w' => SomeB (Pl.Small l[k]) en ∧ Below w1.heap.size w1 w') := fun w1 hb1 =>
        r08_great _ vi vt vk l[k] w1 (hi.below hb1) (ht.below hb1) (hkk.below hb1) (by have := HSm.out.texts _ (List.getElem_mem hlt); omega)
      obtain ⟨VA, vc, rfl, _⟩ := hkk
      obtain ⟨TA, tc, rfl, _⟩ := ht
      obtain ⟨IA, ic, rfl, _⟩ := hi
      clear hc
      have HX : Hid (∀ j, j < k + 1 → Pl.Small l[k] → ∀ h : j < l.length, Pl.Small l[j]) := fun j hj hx h => by
        by_cases e : j = k
        · subst e; exact hx
        · exact HS.out j (by omega) h
      generalize l[k] = x at *
      go_wp2_with fail
      refine (HG.out _ hb).mono ?_
      rintro en w3 ⟨⟨q, rfl, hq⟩, hb3⟩
      have HQ := Lib.hid hq
      clear hq
      have hS3 := Lib.hid (hS.out.step hb3)
      clear hb3 hS HG h0 h1 h2 h3 hb hbb c0
      cases q
      · have HX2 : Hid (∀ j, j < k + 1 → ∀ h : j < l.length, Pl.Small l[j]) := fun j hj h => HX.out j hj (HQ.out rfl) h
        go_wp2_with fail
        go_roundw
        case rel => exact ⟨k + 1, tl2.out, by go_num, HX2, hS3⟩
        case measure => have := tl2.out; simp only [intOf]; omega
      · go_wp2_with fail
        go_ret
        exact ⟨SomeB.yes, hS3.out.bel⟩
    · have tl : decide ((k : Int) < l.length) = false := decide_eq_false (by omega)
      go_wp2_with fail
      go_ret
      exact ⟨SomeB.no ⟨HN.out.1, HN.out.2, fun n hn => by
        obtain ⟨j, hj, rfl⟩ := List.getElem_of_mem hn
        exact HS.out j (by omega) hj⟩, hS.out.bel⟩
end Go.Proofs.YtdejljgoebcmpaaDoor
/- The references: ref08.Diff, Own, Same of equal nodes. -/
namespace Go.Proofs.YtdejljgoebcmpaaDoor
open Go.RowKit

/-- Two nodes boxed. -/
structure TwoN (w : World) (a b : Array Value) (w' : World) : Prop where
  na : w'.heap[w.heap.size]? = some (.cells a 43 (0, 0))
  nb : w'.heap[w.heap.size + 1]? = some (.cells b 43 (0, 0))
  bel : Below w.heap.size w w'
theorem TwoN.box (w : World) (a b : Array Value) : TwoN w a b ((w.alloc (.cells a 43)).alloc (.cells b 43)) := by
  refine ⟨(Below.heap_alloc _ _ _ (by simp)).trans (heap_alloc_new w _), ?_, ((Below.refl _ _).alloc (Nat.le_refl _) _).alloc (by simp) _⟩
  have := heap_alloc_new (w.alloc (.cells a 43)) (.cells b 43)
  rwa [show (w.alloc (.cells a 43)).heap.size = w.heap.size + 1 from by simp] at this
theorem TwoN.step {w w1 w2 : World} {a b : Array Value} (h : TwoN w a b w1) (hb : Below w1.heap.size w1 w2) : TwoN w a b w2 :=
  ⟨(hb.block _ (Array.getElem?_eq_some_iff.1 h.na).1).trans h.na, (hb.block _ (Array.getElem?_eq_some_iff.1 h.nb).1).trans h.nb, h.bel.trans (hb.mono h.bel.size)⟩
theorem TwoN.drew {w w1 : World} {a b : Array Value} (h : TwoN w a b w1) : TwoN w a b w1.drew := ⟨h.na, h.nb, h.bel.drew⟩
set_option maxHeartbeats 2000000 in
set_option maxRecDepth 100000 in
/-- ref08.Diff of equal nodes: nothing. -/
theorem r08_diff (n : Pl.Node) (vi vt vk ui ut uk : Value) (w : World) (hi : RNums w vi n.ints) (ht : RStrs w vt n.texts) (hk : RNums w vk n.kids) (gi : RNums w ui n.ints) (gt : RStrs w ut n.texts) (gk : RNums w uk n.kids)
    (hl : n.ints.length ≤ 1048576) (hl2 : n.texts.length ≤ 1048576) :
    Calls Tryd.prog 67 #[.agg #[.int .i64 n.kind, vi, vt, vk], .agg #[.int .i64 n.kind, ui, ut, uk]] w fun en w' => (∃ A c, en = .returned (.tuple #[.slice A 0 c, .bool true])) ∧ Below w.heap.size w w' := by
  obtain ⟨kd, ints, texts, kids⟩ := n
  simp only at hi ht hk gi gt gk hl hl2 ⊢
  obtain ⟨IA, ic, rfl, hi2⟩ := hi
  obtain ⟨TA, tc, rfl, ht2⟩ := ht
  obtain ⟨KA, kc, rfl, _⟩ := hk
  obtain ⟨JA, jc, rfl, gi2⟩ := gi
  obtain ⟨UA, uc, rfl, gt2⟩ := gt
  obtain ⟨LA, lc, rfl, _⟩ := gk
  have HI := Lib.hid hi2
  have HT := Lib.hid ht2
  have GI := Lib.hid gi2
  have GT := Lib.hid gt2
  have HB := Lib.hid (TwoN.box w #[.int .i64 kd, .slice IA ints.length ic, .slice TA texts.length tc, .slice KA kids.length kc] #[.int .i64 kd, .slice JA ints.length jc, .slice UA texts.length uc, .slice LA kids.length lc])
  clear hi2 ht2 gi2 gt2
  go_enter Tryd.func67, Tryd.ntmps67
  go_upto_region 1 with (fail)
  generalize (w.alloc (.cells #[.int .i64 kd, .slice IA ints.length ic, .slice TA texts.length tc, .slice KA kids.length kc] 43)).alloc (.cells #[.int .i64 kd, .slice JA ints.length jc, .slice UA texts.length uc, .slice LA kids.length lc] 43) = w0 at *
  obtain ⟨a0, a1, a2, a3⟩ := cells4 HB.out.na
  obtain ⟨b0, b1, b2, b3⟩ := cells4 HB.out.nb
  go_upto_region 4 with (fail)
  have HB1 : Hid (TwoN w #[.int .i64 kd, .slice IA ints.length ic, .slice TA texts.length tc, .slice KA kids.length kc] #[.int .i64 kd, .slice JA ints.length jc, .slice UA texts.length uc, .slice LA kids.length lc] (w0.alloc (.cells #[] 141))) := HB.out.step ((Below.refl _ _).alloc (Nat.le_refl _) _)
  generalize w0.alloc (.cells #[] 141) = w1 at *
  generalize w0.heap.size = e at *
  clear HB a0 a1 a2 a3 b0 b1 b2 b3
  go_wp2_with fail
  go_loopw [6, 7] (fun s i wr => ∃ k : Nat, k ≤ ints.length ∧ i = .int .i64 k ∧ s = .slice (some ⟨e, 0, none⟩) 0 0 ∧ Hid (TwoN w #[.int .i64 kd, .slice IA ints.length ic, .slice TA texts.length tc, .slice KA kids.length kc] #[.int .i64 kd, .slice JA ints.length jc, .slice UA texts.length uc, .slice LA kids.length lc] wr)) (fun _ i _ => ints.length - (intOf i).toNat)
  case atStart => exact ⟨0, by omega, rfl, rfl, HB1⟩
  case round =>
    clear HB1
    obtain ⟨k, hkl, rfl, rfl, hB⟩ := hrel
    obtain ⟨a0, a1, a2, a3⟩ := cells4 hB.out.na
    obtain ⟨b0, b1, b2, b3⟩ := cells4 hB.out.nb
    by_cases hlt : k < ints.length
    · have tl : decide ((k : Int) < ints.length) = true := decide_eq_true (by omega)
      have HL : Hid (k < ints.length) := hlt
      obtain ⟨ad, rfl, hc⟩ := HI.out (by omega)
      obtain ⟨ae, rfl, he⟩ := GI.out (by omega)
      have h0 := (hB.out.bel.cell (World.block_lt_of_cell? w _ (hc k hlt))).trans (hc k hlt)
      have h1 := (hB.out.bel.cell (World.block_lt_of_cell? w _ (he k hlt))).trans (he k hlt)
      clear hc he
      generalize ints[k] = x at *
      go_wp2_with fail
      go_quiet (fail)
      all_goals (
        go_wp2_with fail
        go_roundw
        case rel => exact ⟨k + 1, HL.out, by go_num, rfl, hB.out.step ⟨rfl, rfl, rfl, Nat.le_refl _, fun _ _ => rfl⟩⟩
        case measure => have := HL.out; simp only [intOf]; omega)
    · have tl : decide ((k : Int) < ints.length) = false := decide_eq_false (by omega)
      have hend : Hid (k = ints.length) := by unfold Hid; omega
      go_wp2_with fail
      go_loopw [6, 8] (fun s i wr => ∃ k : Nat, k ≤ texts.length ∧ i = .int .i64 k ∧ s = .slice (some ⟨e, 0, none⟩) 0 0 ∧ Hid (TwoN w #[.int .i64 kd, .slice IA ints.length ic, .slice TA texts.length tc, .slice KA kids.length kc] #[.int .i64 kd, .slice JA ints.length jc, .slice UA texts.length uc, .slice LA kids.length lc] wr)) (fun _ i _ => texts.length - (intOf i).toNat)
      case atStart => exact ⟨0, by omega, rfl, rfl, hB⟩
      case round =>
        clear hB a0 a1 a2 a3 b0 b1 b2 b3
        obtain ⟨m, hml, rfl, rfl, hB⟩ := hrel
        obtain ⟨a0, a1, a2, a3⟩ := cells4 hB.out.na
        obtain ⟨b0, b1, b2, b3⟩ := cells4 hB.out.nb
        by_cases hlt2 : m < texts.length
        · have tm : decide ((m : Int) < texts.length) = true := decide_eq_true (by omega)
          have HL : Hid (m < texts.length) := hlt2
          obtain ⟨ad, rfl, hc⟩ := HT.out (by omega)
          obtain ⟨ae, rfl, he⟩ := GT.out (by omega)
          have h0 := (hB.out.bel.cell (World.block_lt_of_cell? w _ (hc m hlt2))).trans (hc m hlt2)
          have h1 := (hB.out.bel.cell (World.block_lt_of_cell? w _ (he m hlt2))).trans (he m hlt2)
          clear hc he
          generalize texts[m] = x at *
          go_wp2_with fail
          go_quiet (fail)
          all_goals (
            go_wp2_with fail
            go_roundw
            case rel => exact ⟨m + 1, HL.out, by go_num, rfl, hB.out.step ⟨rfl, rfl, rfl, Nat.le_refl _, fun _ _ => rfl⟩⟩
            case measure => have := HL.out; simp only [intOf]; omega)
        · have tm : decide ((m : Int) < texts.length) = false := decide_eq_false (by omega)
          go_wp2_with fail
          go_ret2
          exact ⟨⟨_, _, rfl⟩, hB.out.bel⟩
set_option maxHeartbeats 2000000 in
set_option maxRecDepth 100000 in
/-- ref08.Own of equal nodes. -/
theorem r08_own (n : Pl.Node) (vi vt vk ui ut uk : Value) (w : World) (hi : RNums w vi n.ints) (ht : RStrs w vt n.texts) (hk : RNums w vk n.kids) (gi : RNums w ui n.ints) (gt : RStrs w ut n.texts) (gk : RNums w uk n.kids)
    (hl : n.ints.length ≤ 1048576) (hl2 : n.texts.length ≤ 1048576) :
    Calls Tryd.prog 46 #[.agg #[.int .i64 n.kind, vi, vt, vk], .agg #[.int .i64 n.kind, ui, ut, uk]] w fun en w' => en = .returned (.bool true) ∧ Below w.heap.size w w' := by
  have HD : Hid (∀ w1, Below w.heap.size w w1 → Calls Tryd.prog 67 #[.agg #[.int .i64 n.kind, vi, vt, vk], .agg #[.int .i64 n.kind, ui, ut, uk]] w1 fun en w' => (∃ A c, en = .returned (.tuple #[.slice A 0 c, .bool true])) ∧ Below w1.heap.size w1 w') := fun w1 hb =>
    r08_diff n vi vt vk ui ut uk w1 (hi.below hb) (ht.below hb) (hk.below hb) (gi.below hb) (gt.below hb) (gk.below hb) hl hl2
  obtain ⟨kd, ints, texts, kids⟩ := n
  simp only at hi ht hk gi gt gk hl hl2 HD ⊢
  obtain ⟨IA, ic, rfl, _⟩ := hi
  obtain ⟨TA, tc, rfl, _⟩ := ht
  obtain ⟨KA, kc, rfl, hk2⟩ := hk
  obtain ⟨JA, jc, rfl, _⟩ := gi
  obtain ⟨UA, uc, rfl, _⟩ := gt
  obtain ⟨LA, lc, rfl, gk2⟩ := gk
  have HB := Lib.hid (TwoN.box w #[.int .i64 kd, .slice IA ints.length ic, .slice TA texts.length tc, .slice KA kids.length kc] #[.int .i64 kd, .slice JA ints.length jc, .slice UA texts.length uc, .slice LA kids.length lc])
  go_enter Tryd.func46, Tryd.ntmps46
  go_upto_region 1 with (fail)
  generalize (w.alloc (.cells #[.int .i64 kd, .slice IA ints.length ic, .slice TA texts.length tc, .slice KA kids.length kc] 43)).alloc (.cells #[.int .i64 kd, .slice JA ints.length jc, .slice UA texts.length uc, .slice LA kids.length lc] 43) = w0 at *
  obtain ⟨a0, a1, a2, a3⟩ := cells4 HB.out.na
  obtain ⟨b0, b1, b2, b3⟩ := cells4 HB.out.nb
  go_wp2_with fail
  refine (HD.out _ HB.out.bel).mono ?_
  rintro en w1 ⟨⟨A, c, rfl⟩, hb1⟩
  have HB1 := Lib.hid (HB.out.step hb1)
  clear hb1 HB a0 a1 a2 a3 b0 b1 b2 b3 HD
  go_wp2_with fail
  go_ret
  exact ⟨rfl, HB1.out.bel⟩
set_option maxHeartbeats 2000000 in
set_option maxRecDepth 100000 in
/-- ref08.Same of equal nodes. -/
theorem r08_same (n : Pl.Node) (vi vt vk ui ut uk : Value) (w : World) (hi : RNums w vi n.ints) (ht : RStrs w vt n.texts) (hk : RNums w vk n.kids) (gi : RNums w ui n.ints) (gt : RStrs w ut n.texts) (gk : RNums w uk n.kids)
    (hl : n.ints.length ≤ 1048576) (hl2 : n.texts.length ≤ 1048576) (hl3 : n.kids.length ≤ 1048576) :
    Calls Tryd.prog 24 #[.agg #[.int .i64 n.kind, vi, vt, vk], .agg #[.int .i64 n.kind, ui, ut, uk]] w fun en w' => en = .returned (.bool true) ∧ Below w.heap.size w w' := by
  have HD : Hid (∀ w1, Below w.heap.size w w1 → Calls Tryd.prog 46 #[.agg #[.int .i64 n.kind, vi, vt, vk], .agg #[.int .i64 n.kind, ui, ut, uk]] w1 fun en w' => en = .returned (.bool true) ∧ Below w1.heap.size w1 w') := fun w1 hb =>
    r08_own n vi vt vk ui ut uk w1 (hi.below hb) (ht.below hb) (hk.below hb) (gi.below hb) (gt.below hb) (gk.below hb) hl hl2
  obtain ⟨kd, ints, texts, kids⟩ := n
  simp only at hi ht hk gi gt gk hl hl2 HD hl3 ⊢
  obtain ⟨IA, ic, rfl, _⟩ := hi
  obtain ⟨TA, tc, rfl, _⟩ := ht
  obtain ⟨KA, kc, rfl, hk2⟩ := hk
  obtain ⟨JA, jc, rfl, _⟩ := gi
  obtain ⟨UA, uc, rfl, _⟩ := gt
  obtain ⟨LA, lc, rfl, gk2⟩ := gk
  have HB := Lib.hid (TwoN.box w #[.int .i64 kd, .slice IA ints.length ic, .slice TA texts.length tc, .slice KA kids.length kc] #[.int .i64 kd, .slice JA ints.length jc, .slice UA texts.length uc, .slice LA kids.length lc])
  have HI := Lib.hid hk2
  have GI := Lib.hid gk2
  clear hk2 gk2
  go_enter Tryd.func24, Tryd.ntmps24
  go_upto_region 1 with (fail)
  generalize (w.alloc (.cells #[.int .i64 kd, .slice IA ints.length ic, .slice TA texts.length tc, .slice KA kids.length kc] 43)).alloc (.cells #[.int .i64 kd, .slice JA ints.length jc, .slice UA texts.length uc, .slice LA kids.length lc] 43) = w0 at *
  obtain ⟨a0, a1, a2, a3⟩ := cells4 HB.out.na
  obtain ⟨b0, b1, b2, b3⟩ := cells4 HB.out.nb
  go_wp2_with fail
  refine (HD.out _ HB.out.bel).mono ?_
  rintro en w1 ⟨rfl, hb1⟩
  have HB1 := Lib.hid (HB.out.step hb1)
  clear hb1 HB a0 a1 a2 a3 b0 b1 b2 b3 HD
  obtain ⟨a0, a1, a2, a3⟩ := cells4 HB1.out.na
  obtain ⟨b0, b1, b2, b3⟩ := cells4 HB1.out.nb
  go_wp2_with fail
  go_loopw [5] (fun i wr => ∃ k : Nat, k ≤ kids.length ∧ i = .int .i64 k ∧ Hid (TwoN w #[.int .i64 kd, .slice IA ints.length ic, .slice TA texts.length tc, .slice KA kids.length kc] #[.int .i64 kd, .slice JA ints.length jc, .slice UA texts.length uc, .slice LA kids.length lc] wr)) (fun i _ => kids.length - (intOf i).toNat)
  case atStart => exact ⟨0, by omega, rfl, HB1⟩
  case round =>
    clear HB1 a0 a1 a2 a3 b0 b1 b2 b3
    obtain ⟨k, hkl, rfl, hB⟩ := hrel
    obtain ⟨a0, a1, a2, a3⟩ := cells4 hB.out.na
    obtain ⟨b0, b1, b2, b3⟩ := cells4 hB.out.nb
    by_cases hlt : k < kids.length
    · have tl : decide ((k : Int) < kids.length) = true := decide_eq_true (by omega)
      have HL : Hid (k < kids.length) := hlt
      obtain ⟨ad, rfl, hc⟩ := HI.out (by omega)
      obtain ⟨ae, rfl, he⟩ := GI.out (by omega)
      have h0 := (hB.out.bel.cell (World.block_lt_of_cell? w _ (hc k hlt))).trans (hc k hlt)
      have h1 := (hB.out.bel.cell (World.block_lt_of_cell? w _ (he k hlt))).trans (he k hlt)
      clear hc he
      generalize kids[k] = x at *
      go_wp2_with fail
      go_quiet (fail)
      all_goals (
        go_wp2_with fail
        go_roundw
        case rel => exact ⟨k + 1, HL.out, by go_num, hB.out.step ⟨rfl, rfl, rfl, Nat.le_refl _, fun _ _ => rfl⟩⟩
        case measure => have := HL.out; simp only [intOf]; omega)
    · have tl : decide ((k : Int) < kids.length) = false := decide_eq_false (by omega)
      go_wp2_with fail
      go_ret
      exact ⟨rfl, hB.out.bel⟩
end Go.Proofs.YtdejljgoebcmpaaDoor
/- The references: ref09.Same of equal scenes. -/
namespace Go.Proofs.YtdejljgoebcmpaaDoor
open Go.RowKit

/-- Two scenes boxed. -/
structure TwoS (w : World) (a b : Array Value) (w' : World) : Prop where
  na : w'.heap[w.heap.size]? = some (.cells a 24 (0, 0))
  nb : w'.heap[w.heap.size + 1]? = some (.cells b 24 (0, 0))
  bel : Below w.heap.size w w'
theorem TwoS.box (w : World) (a b : Array Value) : TwoS w a b ((w.alloc (.cells a 24)).alloc (.cells b 24)) := by
  refine ⟨(Below.heap_alloc _ _ _ (by simp)).trans (heap_alloc_new w _), ?_, ((Below.refl _ _).alloc (Nat.le_refl _) _).alloc (by simp) _⟩
  have := heap_alloc_new (w.alloc (.cells a 24)) (.cells b 24)
  rwa [show (w.alloc (.cells a 24)).heap.size = w.heap.size + 1 from by simp] at this
theorem TwoS.step {w w1 w2 : World} {a b : Array Value} (h : TwoS w a b w1) (hb : Below w1.heap.size w1 w2) : TwoS w a b w2 :=
  ⟨(hb.block _ (Array.getElem?_eq_some_iff.1 h.na).1).trans h.na, (hb.block _ (Array.getElem?_eq_some_iff.1 h.nb).1).trans h.nb, h.bel.trans (hb.mono h.bel.size)⟩
theorem TwoS.drew {w w1 : World} {a b : Array Value} (h : TwoS w a b w1) : TwoS w a b w1.drew := ⟨h.na, h.nb, h.bel.drew⟩

set_option maxHeartbeats 2000000 in
set_option maxRecDepth 100000 in
theorem r09_same (v u : Value) (root : Int) (l : List Pl.Node) (w : World) (hv : RNodes w v l) (hu : RNodes w u l) (hs : Pl.Sm l) :
    Calls Tryd.prog 9 #[.agg #[v, .int .i64 root], .agg #[u, .int .i64 root]] w fun en w' => en = .returned (.bool true) ∧ Below w.heap.size w w' := by
  have HSm := Lib.hid hs
  have hll := hs.len
  obtain ⟨A, c, rfl, hA⟩ := hv
  obtain ⟨B, d, rfl, hB⟩ := hu
  have HA := Lib.hid hA
  have HB := Lib.hid hB
  have HS0 := Lib.hid (TwoS.box w #[.slice A l.length c, .int .i64 root] #[.slice B l.length d, .int .i64 root])
  clear hA hB hs
  go_enter Tryd.func9, Tryd.ntmps9
  go_upto_region 1 with (fail)
  generalize (w.alloc (.cells #[.slice A l.length c, .int .i64 root] 24)).alloc (.cells #[.slice B l.length d, .int .i64 root] 24) = w0 at *
  obtain ⟨a0, a1⟩ := cells2 HS0.out.na
  obtain ⟨b0, b1⟩ := cells2 HS0.out.nb
  go_wp2_with fail
  go_loopw [5] (fun i wr => ∃ k : Nat, k ≤ l.length ∧ i = .int .i64 k ∧ Hid (TwoS w #[.slice A l.length c, .int .i64 root] #[.slice B l.length d, .int .i64 root] wr)) (fun i _ => l.length - (intOf i).toNat)
  case atStart => exact ⟨0, by omega, rfl, HS0⟩
  case round =>
    clear HS0 a0 a1 b0 b1
    obtain ⟨k, hk, rfl, hS⟩ := hrel
    obtain ⟨a0, a1⟩ := cells2 hS.out.na
    obtain ⟨b0, b1⟩ := cells2 hS.out.nb
    have hb := hS.out.bel
    by_cases hlt : k < l.length
    · have tl : decide ((k : Int) < l.length) = true := decide_eq_true (by omega)
      have HL : Hid (k < l.length) := hlt
      obtain ⟨ad, hAe, hc⟩ := HA.out (by omega)
      subst hAe
      obtain ⟨ae, hBe, he⟩ := HB.out (by omega)
      subst hBe
      obtain ⟨vi, vt, vk, h0, h1, h2, h3, hi, ht, hkk⟩ := (hc k hlt)
      obtain ⟨ui, ut, uk, g0, g1, g2, g3, gi, gt, gkk⟩ := (he k hlt)
      replace h0 := (hb.cell (World.block_lt_of_cell? w _ h0)).trans h0
      replace h1 := (hb.cell (World.block_lt_of_cell? w _ h1)).trans h1
      replace h2 := (hb.cell (World.block_lt_of_cell? w _ h2)).trans h2
      replace h3 := (hb.cell (World.block_lt_of_cell? w _ h3)).trans h3
      replace g0 := (hb.cell (World.block_lt_of_cell? w _ g0)).trans g0
      replace g1 := (hb.cell (World.block_lt_of_cell? w _ g1)).trans g1
      replace g2 := (hb.cell (World.block_lt_of_cell? w _ g2)).trans g2
      replace g3 := (hb.cell (World.block_lt_of_cell? w _ g3)).trans g3
      have hm := List.getElem_mem hlt
      have HG : Hid (∀ w1, Below w.heap.size w w1 → Calls Tryd.prog 24 #[.agg #[.int .i64 l[k].kind, vi, vt, vk], .agg #[.int .i64 l[k].kind, ui, ut, uk]] w1 fun en w' => en = .returned (.bool true) ∧ Below w1.heap.size w1 w') := fun w1 hb1 =>
        r08_same l[k] vi vt vk ui ut uk w1 (hi.below hb1) (ht.below hb1) (hkk.below hb1) (gi.below hb1) (gt.below hb1) (gkk.below hb1) (HSm.out.ints _ hm) (HSm.out.texts _ hm) (HSm.out.kids _ hm)
      obtain ⟨VA, vc, rfl, _⟩ := hkk
      obtain ⟨TA, tc, rfl, _⟩ := ht
      obtain ⟨IA, ic, rfl, _⟩ := hi
      obtain ⟨WA, wc, rfl, _⟩ := gkk
      obtain ⟨UA, uc, rfl, _⟩ := gt
      obtain ⟨JA, jc, rfl, _⟩ := gi
      clear hc he hm
      generalize l[k] = x at *
      go_wp2_with fail
      go_region_with ((go_at_call 24; refine (HG.out _ hS.out.bel.drew).mono ?_; rintro en w3 ⟨rfl, hb3⟩; have hS3 := Lib.hid (hS.out.drew.step hb3); clear hb3))
      all_goals (
        clear hS HG h0 h1 h2 h3 g0 g1 g2 g3 hb a0 a1 b0 b1
        go_wp2_with fail
        go_roundw
        case rel => exact ⟨k + 1, HL.out, by go_num, hS3⟩
        case measure => have := HL.out; simp only [intOf]; omega)
    · have tl : decide ((k : Int) < l.length) = false := decide_eq_false (by omega)
      go_wp2_with fail
      go_ret
      exact ⟨rfl, hS.out.bel⟩
end Go.Proofs.YtdejljgoebcmpaaDoor
/- The references: ref01.Put. -/
namespace Go.Proofs.YtdejljgoebcmpaaDoor
open Go.RowKit

/-- One byte's row. -/
def ByteAt (w : World) (v : Value) (x : Nat) : Prop := ∃ g, v = .slice (some ⟨g, 0, none⟩) 1 1 ∧ w.heap[g]? = some (.cells #[.int .u8 x] 5 (0, 0))
theorem ByteAt.below {w w' : World} {v : Value} {x : Nat} (h : ByteAt w v x) (hb : Below w.heap.size w w') : ByteAt w' v x := by
  obtain ⟨g, rfl, hg⟩ := h
  exact ⟨g, rfl, (hb.block _ (Array.getElem?_eq_some_iff.1 hg).1).trans hg⟩
theorem ByteAt.new (w : World) (x : Nat) : ByteAt (w.alloc (.cells #[.int .u8 x] 5)) (.slice (some ⟨w.heap.size, 0, none⟩) 1 1) x := ⟨_, rfl, heap_alloc_new w _⟩
set_option maxRecDepth 100000 in
theorem ByteAt.conv {w : World} {v : Value} {x : Nat} (h : ByteAt w v x) (hx : x < 256) : (convert 53 9 v).run Tryd.prog w = .ok (.string (Pl.str [UInt8.ofNat x])) w := by
  obtain ⟨g, rfl, hg⟩ := h
  have h2 := run_convert_bytes_arg (P := Tryd.prog) w 53 5 Tryd.underlying53 Tryd.underlying5 g 0 1 1 [(x : Int)] rfl (fun i hi => by
    obtain rfl : i = 0 := by omega
    rw [cell_row hg]; rfl) 9 Tryd.underlying9
  rw [h2]
  unfold strOfNums Pl.str
  congr 3
theorem str_app (x y : Pl.Bytes) : Pl.str x ++ Pl.str y = Pl.str (x ++ y) := by
  apply ByteArray.ext; simp [Pl.str]
set_option maxHeartbeats 2000000 in
set_option maxRecDepth 100000 in
theorem r01_put : ∀ (m n : Nat) (w : World), n < m → n < 18446744073709551616 →
    Calls Tryd.prog 29 #[.int .u64 n] w fun en w' => en = .returned (.string (Pl.str (Pl.vPut n))) ∧ Below w.heap.size w w' := by
  intro m
  induction m with
  | zero => intro n w hn _; omega
  | succ m ih =>
    intro n w hn hn2
    have IH := Lib.hid ih
    clear ih
    by_cases h : n < 128
    · have t1 : decide (n < 128) = true := decide_eq_true h
      have hcv := (ByteAt.new w n).conv (by omega)
      go_enter Tryd.func29, Tryd.ntmps29
      go_wp2_with fail
      go_ret
      exact ⟨ret_str (by rw [Pl.vPut_lt h]), (Below.refl _ _).alloc (Nat.le_refl _) _⟩
    · have t1 : decide (n < 128) = false := decide_eq_false h
      go_enter Tryd.func29, Tryd.ntmps29
      go_upto_region 3 with (fail)
      go_cut [2] (fun v wx => v = .string (Pl.str (Pl.vPut n)) ∧ Below w.heap.size w wx)
      case first =>
        obtain ⟨c, hc⟩ : ∃ c : UInt8, c = UInt8.ofNat (128 + n % 128) := ⟨_, rfl⟩
        have hcv : Hid (∀ w v, ByteAt w v (128 + n % 128) → (convert 53 9 v).run Tryd.prog w = .ok (.string (Pl.str [c])) w) := fun w v h => by rw [hc]; exact h.conv (by omega)
        have hl := Pl.vPut_len (n / 128) (by omega)
        have happ : Pl.str [c] ++ Pl.str (Pl.vPut (n / 128)) = Pl.str (Pl.vPut n) := by
          rw [Pl.vPut_ge h, ← hc]; exact str_app [c] (Pl.vPut (n / 128))
        have hsz : ¬ 9223372036854775807 < (Pl.str [c]).size + (Pl.str (Pl.vPut (n / 128))).size := by rw [str_size', str_size']; simp only [List.length_singleton]; omega
        have hm : (n : Int).tmod 128 = n % 128 := Int.tmod_eq_emod_of_nonneg (by omega)
        have hw8 : IntKind.u8.wrap (128 + (n : Int) % 128) = 128 + (n : Int) % 128 := by rw [wraps_u8 _ (by omega) (by omega)]
        have hw64 : IntKind.u64.wrap (128 + (n : Int) % 128) = 128 + (n : Int) % 128 := by rw [Pl.wraps_u64 _ (by omega) (by omega)]
        have hwq : IntKind.u64.wrap ((n : Int) / 128) = (n : Int) / 128 := by rw [Pl.wraps_u64 _ (by omega) (by omega)]
        clear hc hl
        refine wp_region_b [(0, some 9), (1, some 10), (2, some 11), (3, some 12), (4, some 13), (5, some 14), (6, some 15), (7, some 16), (8, some 17), (9, some 18), (10, some 2)] rfl (by kernel_rfl) rfl
          (fun j v w => match j with
            | 0 => v = .int .u64 n
            | 1 => v = .int .u64 (n % 128 : Nat)
            | 2 => v = .int .u64 (128 + n % 128 : Nat)
            | 3 => v = .int .u8 (128 + n % 128 : Nat)
            | 4 => ByteAt w v (128 + n % 128)
            | 5 => v = .string (Pl.str [c])
            | 6 => v = .int .u64 n
            | 7 => v = .int .u64 (n / 128 : Nat)
            | 8 => v = .string (Pl.str (Pl.vPut (n / 128)))
            | 9 => v = .string (Pl.str (Pl.vPut n))
            | 10 => v = .string (Pl.str (Pl.vPut n))
            | _ => True) ?_ ?_ ?_
        · intro j x w1 w2 h hb
          match j, h with
          | 0, h => exact h
          | 1, h => exact h
          | 2, h => exact h
          | 3, h => exact h
          | 4, h => exact h.below hb
          | 5, h => exact h
          | 6, h => exact h
          | 7, h => exact h
          | 8, h => exact h
          | 9, h => exact h
          | 10, h => exact h
          | _ + 11, _ => trivial
        · intro v b w' i o ho hW hd hN
          have hi : i < 11 := (Array.getElem?_eq_some_iff.1 ho).1
          have HW := Lib.hid hW
          clear hW
          obtain rfl | rfl | rfl | rfl | rfl | rfl | rfl | rfl | rfl | rfl | rfl : i = 0 ∨ i = 1 ∨ i = 2 ∨ i = 3 ∨ i = 4 ∨ i = 5 ∨ i = 6 ∨ i = 7 ∨ i = 8 ∨ i = 9 ∨ i = 10 := by omega
          · cases ho
            have es0 : b.tmps[0]?.getD undef = .int .u64 n := hN 0 (by rfl)
            clear hd hN
            exact wp_val (.int .u64 n) (w1 := w') (by go_simp) ⟨_, rfl, Below.refl _ _, rfl⟩
          · cases ho
            obtain ⟨r0, s0⟩ := hd ⟨0, .data⟩ (by simp) rfl
            replace r0 : v 0 = .int .u64 n := r0
            have e0 := s0 _ 9 rfl rfl
            rw [r0] at e0
            clear hd hN
            exact wp_val (.int .u64 (n % 128 : Nat)) (w1 := w') (by go_simp) ⟨_, rfl, Below.refl _ _, rfl⟩
          · cases ho
            obtain ⟨r1, s1⟩ := hd ⟨1, .data⟩ (by simp) rfl
            replace r1 : v 1 = .int .u64 (n % 128 : Nat) := r1
            have e1 := s1 _ 10 rfl rfl
            rw [r1] at e1
            clear hd hN
            exact wp_val (.int .u64 (128 + n % 128 : Nat)) (w1 := w') (by go_simp) ⟨_, rfl, Below.refl _ _, rfl⟩
          · cases ho
            obtain ⟨r2, s2⟩ := hd ⟨2, .data⟩ (by simp) rfl
            replace r2 : v 2 = .int .u64 (128 + n % 128 : Nat) := r2
            have e2 := s2 _ 11 rfl rfl
            rw [r2] at e2
            clear hd hN
            exact wp_val (.int .u8 (128 + n % 128 : Nat)) (w1 := w') (by go_simp) ⟨_, rfl, Below.refl _ _, rfl⟩
          · cases ho
            obtain ⟨r3, s3⟩ := hd ⟨3, .data⟩ (by simp) rfl
            replace r3 : v 3 = .int .u8 (128 + n % 128 : Nat) := r3
            have e3 := s3 _ 12 rfl rfl
            rw [r3] at e3
            clear hd hN
            refine wp_val (.slice (some ⟨w'.heap.size, 0, none⟩) 1 1) (w1 := w'.alloc (.cells #[.int .u8 (128 + n % 128 : Nat)] 5)) (by go_simp) ⟨_, rfl, (Below.refl _ _).alloc (Nat.le_refl _) _, ByteAt.new _ _⟩
          · cases ho
            obtain ⟨r4, s4⟩ := hd ⟨4, .data⟩ (by simp) rfl
            replace r4 : (fun (v : Value) (w : World) => ByteAt w v (128 + n % 128)) (v 4) w' := r4
            simp only at r4
            have e4 := s4 _ 13 rfl rfl
            clear hd hN
            have hc := hcv.out _ _ r4
            exact wp_val (.string (Pl.str [c])) (w1 := w') (by go_simp) ⟨_, rfl, Below.refl _ _, rfl⟩
          · cases ho
            have es0 : b.tmps[0]?.getD undef = .int .u64 n := hN 0 (by rfl)
            clear hd hN
            exact wp_val (.int .u64 n) (w1 := w') (by go_simp) ⟨_, rfl, Below.refl _ _, rfl⟩
          · cases ho
            obtain ⟨r6, s6⟩ := hd ⟨6, .data⟩ (by simp) rfl
            replace r6 : v 6 = .int .u64 n := r6
            have e6 := s6 _ 15 rfl rfl
            rw [r6] at e6
            clear hd hN
            exact wp_val (.int .u64 (n / 128 : Nat)) (w1 := w') (by go_simp) ⟨_, rfl, Below.refl _ _, rfl⟩
          · cases ho
            obtain ⟨r7, s7⟩ := hd ⟨7, .data⟩ (by simp) rfl
            replace r7 : v 7 = .int .u64 (n / 128 : Nat) := r7
            have e7 := s7 _ 16 rfl rfl
            rw [r7] at e7
            clear hd hN
            refine wp_call _ #[.int .u64 (n / 128 : Nat)] (w1 := w') (by go_simp) ((IH.out (n / 128) w' (by omega) (by omega)).mono ?_)
            rintro en w5 ⟨rfl, hb⟩
            exact ⟨_, rfl, _, rfl, hb, rfl⟩
          · cases ho
            obtain ⟨r5, s5⟩ := hd ⟨5, .data⟩ (by simp) rfl
            replace r5 : v 5 = .string (Pl.str [c]) := r5
            have e5 := s5 _ 14 rfl rfl
            rw [r5] at e5
            obtain ⟨r8, s8⟩ := hd ⟨8, .data⟩ (by simp) rfl
            replace r8 : v 8 = .string (Pl.str (Pl.vPut (n / 128))) := r8
            have e8 := s8 _ 17 rfl rfl
            rw [r8] at e8
            clear hd hN
            exact wp_val (.string (Pl.str (Pl.vPut n))) (w1 := w') (by go_simp) ⟨_, rfl, Below.refl _ _, rfl⟩
          · cases ho
            obtain ⟨r9, s9⟩ := hd ⟨9, .data⟩ (by simp) rfl
            replace r9 : v 9 = .string (Pl.str (Pl.vPut n)) := r9
            have e9 := s9 _ 18 rfl rfl
            rw [r9] at e9
            clear hd hN
            exact wp_val (.string (Pl.str (Pl.vPut n))) (w1 := w') (by go_simp) ⟨_, rfl, Below.refl _ _, rfl⟩
        · intro v w' hW hR
          have v0 : v 0 = .int .u64 n := hR 0 (by decide)
          have v1 : v 1 = .int .u64 (n % 128 : Nat) := hR 1 (by decide)
          have v2 : v 2 = .int .u64 (128 + n % 128 : Nat) := hR 2 (by decide)
          have v3 : v 3 = .int .u8 (128 + n % 128 : Nat) := hR 3 (by decide)
          have v4 : (fun (v : Value) (w : World) => ByteAt w v (128 + n % 128)) (v 4) w' := hR 4 (by decide)
          have v5 : v 5 = .string (Pl.str [c]) := hR 5 (by decide)
          have v6 : v 6 = .int .u64 n := hR 6 (by decide)
          have v7 : v 7 = .int .u64 (n / 128 : Nat) := hR 7 (by decide)
          have v8 : v 8 = .string (Pl.str (Pl.vPut (n / 128))) := hR 8 (by decide)
          have v9 : v 9 = .string (Pl.str (Pl.vPut n)) := hR 9 (by decide)
          have v10 : v 10 = .string (Pl.str (Pl.vPut n)) := hR 10 (by decide)
          have HB := Lib.hid hW
          clear hR hW
          simp only [putL, Act.put, if_true, v0, v1, v2, v3, v5, v6, v7, v8, v9, v10]
          go_simp
          go_wp2_with fail
          go_meet
          exact ⟨rfl, HB.out⟩
      case rest =>
        obtain ⟨rfl, hB⟩ := hcut
        go_wp2_with fail
        go_ret
        exact ⟨rfl, hB⟩
end Go.Proofs.YtdejljgoebcmpaaDoor
/- The references: ref03. -/
namespace Go.Proofs.YtdejljgoebcmpaaDoor
open Go.RowKit

set_option maxHeartbeats 1000000 in
set_option maxRecDepth 100000 in
theorem r03_step (x c : Nat) (w : World) (hx : x < 4294967296) (hc : c < 256) :
    Calls Tryd.prog 56 #[.int .u32 x, .int .u8 c] w fun en w' => en = .returned (.int .u32 (Pl.crcStep x c)) ∧ w = w' := by
  have h0 : bits .xor .u32 (x : Int) (c : Int) = ((x ^^^ c : Nat) : Int) := Pl.xor_u32 x c (by omega) (by omega)
  have H0 := Lib.hid h0
  have HS := Lib.hid (Pl.crcStep_bits x c)
  have hy0 : x ^^^ c < 4294967296 := Nat.xor_lt_two_pow (n := 32) (by omega) (by omega)
  clear h0
  go_enter Tryd.func56, Tryd.ntmps56
  go_wp2
  rw [H0.out]
  go_loop [0, 5, 6] (fun x' j o => ∃ m y : Nat, m ≤ 8 ∧ y < 4294967296 ∧ j = .int .i64 m ∧ x' = .int .u32 y ∧ Hid (Pl.crcStep x c = Pl.crcBits (8 - m) y)) (fun _ j _ => 8 - (intOf j).toNat)
  case atStart => exact ⟨0, x ^^^ c, by omega, hy0, rfl, rfl, HS.out.symm⟩
  case round =>
    obtain ⟨m, y, hm, hy, rfl, rfl, hg⟩ := hrel
    by_cases hm8 : m < 8
    · have hx : bits .xor .u32 ((y : Int) / 2) 3988292384 = ((y / 2 ^^^ Pl.poly : Nat) : Int) := Pl.xor_u32 (y / 2) Pl.poly (by omega) (by decide)
      have HX := Lib.hid hx
      have hs : Pl.crcBits (8 - m) y = Pl.crcBits (8 - (m + 1)) (Pl.crcBit y) := by rw [show 8 - m = (8 - (m + 1)) + 1 from by omega]; rfl
      have HS2 := Lib.hid hs
      have hy2 := Pl.crcBit_lt (x := y) (by omega)
      have HB : Hid (Pl.crcBit y = if y % 2 = 1 then y / 2 ^^^ Pl.poly else y / 2) := rfl
      have hmod : (y : Int).tmod 2 = (y : Int) % 2 := Int.tmod_eq_emod_of_nonneg (by omega)
      clear hx hs
      by_cases h2 : y % 2 = 1
      · have ht : ((y : Int) % 2 == 1) = true := by rw [beq_iff_eq]; omega
        have HE : Hid (Pl.crcBit y = y / 2 ^^^ Pl.poly) := by unfold Hid; rw [HB.out, if_pos h2]
        clear h2
        go_wp2
        go_round
        case rel => exact ⟨m + 1, Pl.crcBit y, by omega, by omega, by go_num, by rw [HX.out, HE.out], by unfold Hid; rw [hg.out, HS2.out]⟩
        case measure => simp [intOf]; omega
      · have ht : ((y : Int) % 2 == 1) = false := by rw [beq_eq_false_iff_ne]; omega
        have HE : Hid (Pl.crcBit y = y / 2) := by unfold Hid; rw [HB.out, if_neg h2]
        clear h2
        go_wp2
        go_round
        case rel => exact ⟨m + 1, Pl.crcBit y, by omega, by omega, by go_num, by rw [HE.out]; go_num, by unfold Hid; rw [hg.out, HS2.out]⟩
        case measure => simp [intOf]; omega
    · obtain rfl : m = 8 := by omega
      have HG : Hid (Pl.crcStep x c = y) := hg
      clear hg
      go_wp2
      go_ret
      exact ⟨ret_int (by rw [HG.out]), rfl⟩
set_option maxHeartbeats 1000000 in
set_option maxRecDepth 100000 in
theorem r03_sum (b : ByteArray) (w : World) (hb : b.size ≤ 140737488355328) :
    Calls Tryd.prog 31 #[.string b] w fun en w' => en = .returned (.int .u32 (Pl.crc b.data.toList)) ∧ w = w' := by
  go_enter Tryd.func31, Tryd.ntmps31
  go_wp2
  go_loop [3, 4] (fun x i => ∃ k : Nat, k ≤ b.size ∧ i = .int .i64 k ∧ x = .int .u32 (Pl.crcGo 4294967295 (b.data.toList.take k))) (fun _ i => b.size - (intOf i).toNat)
  case atStart => exact ⟨0, by omega, rfl, rfl⟩
  case round =>
    obtain ⟨k, hk, rfl, rfl⟩ := hrel
    have hx : Pl.crcGo 4294967295 (b.data.toList.take k) < 4294967296 := Pl.crcGo_lt (by omega) _
    by_cases hlt : k < b.size
    · have HT : Hid (Pl.crcGo 4294967295 (b.data.toList.take (k + 1)) = Pl.crcStep (Pl.crcGo 4294967295 (b.data.toList.take k)) b[k].toNat) := by
        unfold Hid; rw [Pl.take_snoc _ _ (by simpa using hlt), crcGo_snoc]; rfl
      have hc : b[k].toNat < 256 := UInt8.toNat_lt _
      have tl : decide ((k : Int) < b.size) = true := decide_eq_true (by omega)
      generalize Pl.crcGo 4294967295 (b.data.toList.take k) = x at *
      have HI := Lib.hid (r03_step x b[k].toNat w hx hc)
      go_wp2_with fail
      refine HI.out.mono ?_
      rintro en w1 ⟨rfl, rfl⟩
      go_wp2
      go_round
      case rel => exact ⟨k + 1, by omega, by go_num, by rw [HT.out]⟩
      case measure => simp [intOf]; omega
    · have HT : Hid (Pl.crcGo 4294967295 (b.data.toList.take k) = Pl.crcGo 4294967295 b.data.toList) := by
        unfold Hid; rw [List.take_of_length_le (by simp; omega)]
      have tl : decide ((k : Int) < b.size) = false := decide_eq_false (by omega)
      generalize Pl.crcGo 4294967295 (b.data.toList.take k) = x at *
      have hw : IntKind.u32.wrap (4294967295 - (x : Int)) = 4294967295 - (x : Int) := by rw [IntKind.wrap_u32]; omega
      go_wp2
      go_ret
      exact ⟨ret_int (by unfold Pl.crc; rw [← HT.out]; omega), rfl⟩
theorem own_empty (w : World) (B : Nat) (hB : B ≤ w.heap.size) (e : TypeId) (size : Nat) : (w.alloc (.cells #[] e)).ownsRow B e size (.slice (some ⟨w.heap.size, 0, none⟩) 0 0) 0 [] :=
  ⟨by simp, .inr ⟨w.heap.size, 0, #[], rfl, hB, heap_alloc_new w _, Nat.le_refl _, by decide, by simp, by simp⟩⟩
namespace Pl
/-- A word's bytes, so many. -/
def tailB : Nat → Nat → Bytes
  | 0, _ => []
  | n + 1, y => UInt8.ofNat y :: tailB n (y / 256)
theorem crcPut_tail (s : Nat) : crcPut s = tailB 4 s := by
  unfold crcPut tailB tailB tailB tailB tailB
  rw [Nat.div_div_eq_div_mul, Nat.div_div_eq_div_mul]
theorem u8_mod (y : Nat) : (UInt8.ofNat y).toNat = y % 256 := by simp
end Pl
set_option maxHeartbeats 1000000 in
set_option maxRecDepth 100000 in
theorem r03_put (s : Nat) (w : World) (hs : s < 4294967296) :
    Calls Tryd.prog 30 #[.int .u32 s] w fun en w' => en = .returned (.string (Pl.str (Pl.crcPut s))) ∧ Below w.heap.size w w' := by
  have hown0 := own_empty w w.heap.size (Nat.le_refl _) 5 1
  have hbel0 : Below w.heap.size w (w.alloc (.cells #[] 5)) := (Below.refl _ _).alloc (Nat.le_refl _) _
  go_enter Tryd.func30, Tryd.ntmps30
  go_wp2_with fail
  go_loopw [0, 3, 4] (fun x v j wr => ∃ (k y : Nat) (l : Pl.Bytes), k ≤ 4 ∧ l.length = k ∧ y < 4294967296 ∧ j = .int .i64 k ∧ x = .int .u32 y ∧ wr.ownsRow w.heap.size 5 1 v l.length (u8s l) ∧ Below w.heap.size w wr ∧ Hid (Pl.crcPut s = l ++ Pl.tailB (4 - k) y)) (fun _ _ j _ => 4 - (intOf j).toNat)
  case atStart => exact ⟨0, s, [], by omega, rfl, hs, rfl, rfl, hown0, hbel0, Pl.crcPut_tail s⟩
  case round =>
    clear hown0 hbel0
    obtain ⟨k, y, l, hk, hl, hy, rfl, rfl, hown, hbel, hg⟩ := hrel
    by_cases hlt : k < 4
    · have HL := Lib.hid hl
      have HE : Hid (Pl.crcPut s = (l ++ [UInt8.ofNat y]) ++ Pl.tailB (4 - (k + 1)) (y / 256)) := by
        unfold Hid; rw [hg.out, show 4 - k = (4 - (k + 1)) + 1 from by omega]; simp [Pl.tailB]
      have HV : Hid (u8s l ++ [.int .u8 ((y : Int) % 256)] = u8s (l ++ [UInt8.ofNat y])) := by
        unfold Hid; rw [u8s_snoc, Pl.u8_mod]; rfl
      have hmod : (y : Int).tmod 256 = (y : Int) % 256 := Int.tmod_eq_emod_of_nonneg (by omega)
      have hw8 : IntKind.u8.wrap ((y : Int) % 256) = (y : Int) % 256 := by rw [wraps_u8 _ (by omega) (by omega)]
      have tl : decide ((k : Int) < 4) = true := decide_eq_true (by omega)
      have hl8 : l.length ≤ 4 := by omega
      clear hl
      go_wp2_with (at_builtin; refine app_new (.tmp 10) (.tmp 14) 53 5 (.int .u8 0) 1 1 Tryd.underlying53 info5 rfl (by decide) rfl rfl rfl hown hbel.size [.int .u8 ((y : Int) % 256)] 1 rfl rfl ?c2 ?c3 (by decide) ?_; (case c2 => simp [Value.oneCell']); (case c3 => omega); intro v' w1 hown' hupd)
      have hbel1 := Upd.below hbel hupd hbel.size (own_ge hown)
      rw [HV.out] at hown'
      go_roundw
      case rel => exact ⟨k + 1, y / 256, _, by omega, by rw [List.length_append, HL.out]; rfl, by omega, by go_num, by go_num, by rw [List.length_append]; exact hown', hbel1, HE⟩
      case measure => simp [intOf]; omega
    · obtain rfl : k = 4 := by omega
      have HE : Hid (Pl.str (Pl.crcPut s) = ⟨l.toArray⟩) := by unfold Hid; rw [hg.out]; simp [Pl.tailB, Pl.str]
      have hcv := own_conv (P := Tryd.prog) Tryd.underlying53 Tryd.underlying5 Tryd.underlying9 hown
      clear hl hown
      go_wp2_with fail
      go_ret
      exact ⟨ret_str HE.out.symm, hbel⟩
end Go.Proofs.YtdejljgoebcmpaaDoor
/- The references: ref04.Put. -/
namespace Go.Proofs.YtdejljgoebcmpaaDoor
open Go.RowKit

set_option maxHeartbeats 2000000 in
set_option maxRecDepth 100000 in
theorem r04_put (m : ByteArray) (v : Nat) (A : Option Addr) (c : Nat) (l : List Pl.Sec) (w : World) (hr : RSecs w A l) (hm : m.size = 4) (hv : 1 ≤ v ∧ v ≤ 255) (hl : l.length ≤ 8) (hid : ∀ s ∈ l, 1 ≤ s.id ∧ s.id ≤ 255) (hsz : ∀ s ∈ l, s.pay.length ≤ 140737488355328) :
    Calls Tryd.prog 13 #[.string m, .int .i64 v, .slice A l.length c] w fun en w' => en = .returned (.tuple #[.string (Pl.str (Pl.framePut m.data.toList v l).1), .int .i64 (Pl.framePut m.data.toList v l).2]) ∧ Below w.heap.size w w' := by
  have hm1 : ((m.size : Int) != 4) = false := by rw [bne_eq_false_iff_eq]; omega
  have hm2 : (m.size != 4) = false := by rw [bne_eq_false_iff_eq]; omega
  have hv1 := hv.1
  have hv2 := hv.2
  have hv3 : decide ((v : Int) < 1) = false := decide_eq_false (by omega)
  have hv4 : decide ((255 : Int) < v) = false := decide_eq_false (by omega)
  have hl1 : decide ((8 : Int) < l.length) = false := decide_eq_false (by omega)
  have hl2 : decide (8 < l.length) = false := decide_eq_false (by omega)
  have hw8 : IntKind.u8.wrap (v : Int) = v := by rw [wraps_u8 _ (by omega) (by omega)]
  have hcv := (ByteAt.new w v).conv (by omega)
  have hb0 : Below w.heap.size w (w.alloc (.cells #[.int .u8 v] 5)) := (Below.refl _ _).alloc (Nat.le_refl _) _
  have hml : m.data.toList.length = 4 := by simpa using hm
  have hcat : Op.stringOp .add m (Pl.str [UInt8.ofNat v]) = pure (.string (Pl.str (m.data.toList ++ [UInt8.ofNat v]))) := by
    have := str_cat m.data.toList [UInt8.ofNat v] (by simp; omega)
    rwa [str_data] at this
  have HML := Lib.hid hml
  have HR := Lib.hid hr
  have HID := Lib.hid hid
  have HSZ := Lib.hid hsz
  have hlen0 := Lib.hid (fun k h => frame_len m v l k h)
  have HFP : Hid (Pl.framePut m.data.toList v l = if l.all (fun s => s.pay.length ≤ 16777216) then ((m.data.toList ++ [UInt8.ofNat v]) ++ l.flatMap Pl.secBytes, 0) else ([], 19)) := by
    unfold Hid Pl.framePut Pl.frameBytes; simp
  generalize Pl.framePut m.data.toList v l = res at *
  obtain ⟨pre, hpre⟩ : ∃ pre, pre = m.data.toList ++ [UInt8.ofNat v] := ⟨_, rfl⟩
  rw [← hpre] at hcat hlen0 HFP
  clear hml hr hid hsz hpre
  go_enter Tryd.func13, Tryd.ntmps13
  go_wp2_with fail
  go_loopw [8, 9] (fun s i wr => ∃ k : Nat, k ≤ l.length ∧ i = .int .i64 k ∧ s = .string (Pl.str (pre ++ (l.take k).flatMap Pl.secBytes)) ∧ Hid (Below w.heap.size w wr) ∧ Hid ((l.take k).all (fun s => s.pay.length ≤ 16777216) = true)) (fun _ i _ => l.length - (intOf i).toNat)
  case atStart => exact ⟨0, by omega, rfl, by simp, hb0, rfl⟩
  case round =>
    clear hb0 hcat hcv
    obtain ⟨k, hk, rfl, rfl, hb, hall⟩ := hrel
    by_cases hlt : k < l.length
    · have tl : decide ((k : Int) < l.length) = true := decide_eq_true (by omega)
      have HL := Lib.hid hlt
      obtain ⟨ad, rfl, hcs⟩ := (HR.out.below hb.out) (by omega)
      obtain ⟨c0, c1⟩ := hcs k hlt
      have hids := HID.out l[k] (List.getElem_mem hlt)
      have HT : Hid (l.take (k + 1) = l.take k ++ [l[k]]) := List.take_succ_eq_append_getElem hlt
      have HM := Lib.hid (List.getElem_mem hlt)
      have hszs := HSZ.out l[k] HM.out
      have hlen := Lib.hid (hlen0.out k hall.out)
      have HC : Hid (∀ w1, Below wr.heap.size wr w1 → w1.cell? (ad.add (k * 2)) = some (.int .i64 l[k].id) ∧ w1.cell? ⟨(ad.add (k * 2)).block, (ad.add (k * 2)).off + 1, none⟩ = some (.string (Pl.str l[k].pay))) := fun w1 h =>
        ⟨(h.cell (World.block_lt_of_cell? wr _ c0)).trans c0, (h.cell (World.block_lt_of_cell? wr _ c1)).trans c1⟩
      clear hcs
      generalize l[k] = s at *
      obtain ⟨id, pay⟩ := s
      obtain ⟨sid, rfl⟩ : ∃ sid : Nat, id = sid := ⟨id.toNat, by simp only at hids; omega⟩
      simp only at hids hszs c0 c1 HC HT HM
      obtain ⟨hid1, hid2⟩ := hids
      have t1 : decide ((sid : Int) < 1) = false := decide_eq_false (by omega)
      have t2 : decide ((255 : Int) < sid) = false := decide_eq_false (by omega)
      have hp : (Pl.str pay).size = pay.length := str_size' _
      have HP : Hid (pay.length ≤ 140737488355328) := hszs
      by_cases hbig : 16777216 < pay.length
      · have t3 : decide ((16777216 : Int) < (Pl.str pay).size) = true := decide_eq_true (by omega)
        have t4 : decide (16777216 < (Pl.str pay).size) = true := decide_eq_true (by omega)
        have t5 : decide ((16777216 : Int) < pay.length) = true := decide_eq_true (by omega)
        have HF : Hid (([], 19) = res) := by
          unfold Hid
          rw [HFP.out, if_neg]
          rw [List.all_eq_true]
          intro h
          have := h _ HM.out
          simp at this; omega
        clear hbig
        go_wp2_with fail
        go_ret2
        rw [← HF.out]
        exact ⟨rfl, hb.out⟩
      · have t3 : decide ((16777216 : Int) < (Pl.str pay).size) = false := decide_eq_false (by omega)
        have t4 : decide (16777216 < (Pl.str pay).size) = false := decide_eq_false (by omega)
        have t5 : decide ((16777216 : Int) < pay.length) = false := decide_eq_false (by omega)
        have HPS : Hid (pay.length ≤ 16777216) := by unfold Hid; omega
        have HALL : Hid ((l.take (k + 1)).all (fun s => s.pay.length ≤ 16777216) = true) := by
          unfold Hid; rw [HT.out, List.all_append, hall.out]; simp; exact HPS.out
        clear hbig
        go_upto_region 15 with (fail)
        obtain ⟨x, hx⟩ : ∃ x : UInt8, x = UInt8.ofNat sid := ⟨_, rfl⟩
        have hcv : Hid (∀ w v, ByteAt w v sid → (convert 53 9 v).run Tryd.prog w = .ok (.string (Pl.str [x])) w) := fun w v h => by rw [hx]; exact h.conv (by omega)
        have hlv := Pl.vPut_len pay.length (by have := HPS.out; omega)
        obtain ⟨X1, hX1⟩ : ∃ X1, X1 = [x] ++ Pl.vPut pay.length := ⟨_, rfl⟩
        obtain ⟨X2, hX2⟩ : ∃ X2, X2 = X1 ++ pay := ⟨_, rfl⟩
        obtain ⟨X3, hX3⟩ : ∃ X3, X3 = X2 ++ Pl.crcPut (Pl.crc pay) := ⟨_, rfl⟩
        have HE : Hid (pre ++ (l.take (k + 1)).flatMap Pl.secBytes = (pre ++ (l.take k).flatMap Pl.secBytes) ++ X3) := by
          unfold Hid; rw [HT.out, hX3, hX2, hX1, hx]; simp [Pl.secBytes]
        have hn1 : X1.length ≤ 11 := by rw [hX1, List.length_append]; simp only [List.length_singleton]; omega
        have hn2 : X2.length ≤ 11 + pay.length := by rw [hX2, List.length_append]; omega
        have hn3 : X3.length ≤ 15 + pay.length := by rw [hX3, List.length_append]; simp only [Pl.crcPut, List.length_cons, List.length_nil]; omega
        have a1 : Pl.str [x] ++ Pl.str (Pl.vPut pay.length) = Pl.str X1 := by rw [hX1]; exact str_app _ _
        have a2 : Pl.str X1 ++ Pl.str pay = Pl.str X2 := by rw [hX2]; exact str_app _ _
        have a3 : Pl.str X2 ++ Pl.str (Pl.crcPut (Pl.crc pay)) = Pl.str X3 := by rw [hX3]; exact str_app _ _
        obtain ⟨L, hL⟩ : ∃ L, L = pre ++ (l.take k).flatMap Pl.secBytes := ⟨_, rfl⟩
        obtain ⟨L', hL'⟩ : ∃ L', L' = pre ++ (l.take (k + 1)).flatMap Pl.secBytes := ⟨_, rfl⟩
        rw [← hL, ← hL'] at HE
        rw [← hL] at hlen
        rw [← hL]
        have a4 : Pl.str L ++ Pl.str X3 = Pl.str L' := by rw [HE.out]; exact str_app _ _
        have z1 : ¬ 9223372036854775807 < (Pl.str [x]).size + (Pl.str (Pl.vPut pay.length)).size := by rw [str_size', str_size']; simp only [List.length_singleton]; omega
        have z2 : ¬ 9223372036854775807 < (Pl.str X1).size + pay.length := by rw [str_size']; omega
        have z3 : ¬ 9223372036854775807 < (Pl.str X2).size + (Pl.str (Pl.crcPut (Pl.crc pay))).size := by rw [str_size', str_size']; simp only [Pl.crcPut, List.length_cons, List.length_nil]; omega
        have z4 : ¬ 9223372036854775807 < (Pl.str L).size + (Pl.str X3).size := by rw [str_size', str_size']; have := hlen.out; omega
        have ew : IntKind.u64.wrap (pay.length : Int) = pay.length := Pl.wraps_u64 _ (by omega) (by omega)
        have ew8 : IntKind.u8.wrap (sid : Int) = sid := by rw [wraps_u8 _ (by omega) (by omega)]
        clear hn1 hn2 hn3 hX1 hX2 hX3 hx HE hL hlen hlv hall HT
        refine wp_region_b [(0, some 55), (1, some 56), (2, some 57), (3, some 58), (4, some 59), (5, some 60), (6, some 61), (7, some 62), (8, some 63), (9, some 64), (10, some 65), (11, some 66), (12, some 67), (13, some 68), (14, some 69), (15, some 70), (16, some 71), (17, some 72), (18, some 73), (19, some 74), (20, some 75), (21, some 76), (22, some 77), (23, some 78), (24, some 79), (25, some 80), (26, some 81), (27, some 82), (28, some 83), (29, some 84), (30, some 85), (31, some 86), (32, some 87), (33, some 8)] rfl (by kernel_rfl) rfl
          (fun j v w => match j with
            | 0 => v = .string (Pl.str L)
            | 1 => v = .slice (some ad) l.length c
            | 2 => v = .int .i64 k
            | 3 => v = .pointer (some (ad.add (k * 2)))
            | 4 => v = .pointer (some (ad.add (k * 2)))
            | 5 => v = .int .i64 sid
            | 6 => v = .int .u8 sid
            | 7 => ByteAt w v sid
            | 8 => v = .string (Pl.str [x])
            | 9 => v = .slice (some ad) l.length c
            | 10 => v = .int .i64 k
            | 11 => v = .pointer (some (ad.add (k * 2)))
            | 12 => v = .pointer (some ⟨(ad.add (k * 2)).block, (ad.add (k * 2)).off + 1, none⟩)
            | 13 => v = .string (Pl.str pay)
            | 14 => v = .int .i64 pay.length
            | 15 => v = .int .u64 pay.length
            | 16 => v = .string (Pl.str (Pl.vPut pay.length))
            | 17 => v = .string (Pl.str X1)
            | 18 => v = .slice (some ad) l.length c
            | 19 => v = .int .i64 k
            | 20 => v = .pointer (some (ad.add (k * 2)))
            | 21 => v = .pointer (some ⟨(ad.add (k * 2)).block, (ad.add (k * 2)).off + 1, none⟩)
            | 22 => v = .string (Pl.str pay)
            | 23 => v = .string (Pl.str X2)
            | 24 => v = .slice (some ad) l.length c
            | 25 => v = .int .i64 k
            | 26 => v = .pointer (some (ad.add (k * 2)))
            | 27 => v = .pointer (some ⟨(ad.add (k * 2)).block, (ad.add (k * 2)).off + 1, none⟩)
            | 28 => v = .string (Pl.str pay)
            | 29 => v = .int .u32 (Pl.crc pay)
            | 30 => v = .string (Pl.str (Pl.crcPut (Pl.crc pay)))
            | 31 => v = .string (Pl.str X3)
            | 32 => v = .string (Pl.str L')
            | 33 => v = .string (Pl.str L')
            | _ => True) ?_ ?_ ?_
        · intro j x w1 w2 h hb
          match j, h with
          | 0, h => exact h
          | 1, h => exact h
          | 2, h => exact h
          | 3, h => exact h
          | 4, h => exact h
          | 5, h => exact h
          | 6, h => exact h
          | 7, h => exact h.below hb
          | 8, h => exact h
          | 9, h => exact h
          | 10, h => exact h
          | 11, h => exact h
          | 12, h => exact h
          | 13, h => exact h
          | 14, h => exact h
          | 15, h => exact h
          | 16, h => exact h
          | 17, h => exact h
          | 18, h => exact h
          | 19, h => exact h
          | 20, h => exact h
          | 21, h => exact h
          | 22, h => exact h
          | 23, h => exact h
          | 24, h => exact h
          | 25, h => exact h
          | 26, h => exact h
          | 27, h => exact h
          | 28, h => exact h
          | 29, h => exact h
          | 30, h => exact h
          | 31, h => exact h
          | 32, h => exact h
          | 33, h => exact h
          | _ + 34, _ => trivial
        · intro v b w' i o ho hW hd hN
          have hi : i < 34 := (Array.getElem?_eq_some_iff.1 ho).1
          have HW := Lib.hid hW
          clear hW
          obtain ⟨c0, c1⟩ := HC.out _ HW.out
          obtain rfl | rfl | rfl | rfl | rfl | rfl | rfl | rfl | rfl | rfl | rfl | rfl | rfl | rfl | rfl | rfl | rfl | rfl | rfl | rfl | rfl | rfl | rfl | rfl | rfl | rfl | rfl | rfl | rfl | rfl | rfl | rfl | rfl | rfl : i = 0 ∨ i = 1 ∨ i = 2 ∨ i = 3 ∨ i = 4 ∨ i = 5 ∨ i = 6 ∨ i = 7 ∨ i = 8 ∨ i = 9 ∨ i = 10 ∨ i = 11 ∨ i = 12 ∨ i = 13 ∨ i = 14 ∨ i = 15 ∨ i = 16 ∨ i = 17 ∨ i = 18 ∨ i = 19 ∨ i = 20 ∨ i = 21 ∨ i = 22 ∨ i = 23 ∨ i = 24 ∨ i = 25 ∨ i = 26 ∨ i = 27 ∨ i = 28 ∨ i = 29 ∨ i = 30 ∨ i = 31 ∨ i = 32 ∨ i = 33 := by omega
          · cases ho
            have es8 : b.tmps[8]?.getD undef = .string (Pl.str L) := hN 8 (by rfl)
            clear hd hN
            exact wp_val (.string (Pl.str L)) (w1 := w') (by go_simp) ⟨_, rfl, Below.refl _ _, rfl⟩
          · cases ho
            have es2 : b.tmps[2]?.getD undef = .slice (some ad) l.length c := hN 2 (by rfl)
            clear hd hN
            exact wp_val (.slice (some ad) l.length c) (w1 := w') (by go_simp) ⟨_, rfl, Below.refl _ _, rfl⟩
          · cases ho
            have es9 : b.tmps[9]?.getD undef = .int .i64 k := hN 9 (by rfl)
            clear hd hN
            exact wp_val (.int .i64 k) (w1 := w') (by go_simp) ⟨_, rfl, Below.refl _ _, rfl⟩
          · cases ho
            obtain ⟨r1, s1⟩ := hd ⟨1, .data⟩ (by simp) rfl
            replace r1 : v 1 = .slice (some ad) l.length c := r1
            have e1 := s1 _ 56 rfl rfl
            rw [r1] at e1
            obtain ⟨r2, s2⟩ := hd ⟨2, .data⟩ (by simp) rfl
            replace r2 : v 2 = .int .i64 k := r2
            have e2 := s2 _ 57 rfl rfl
            rw [r2] at e2
            clear hd hN
            exact wp_val (.pointer (some (ad.add (k * 2)))) (w1 := w') (by go_simp) ⟨_, rfl, Below.refl _ _, rfl⟩
          · cases ho
            obtain ⟨r3, s3⟩ := hd ⟨3, .data⟩ (by simp) rfl
            replace r3 : v 3 = .pointer (some (ad.add (k * 2))) := r3
            have e3 := s3 _ 58 rfl rfl
            rw [r3] at e3
            clear hd hN
            exact wp_val (.pointer (some (ad.add (k * 2)))) (w1 := w') (by go_simp) ⟨_, rfl, Below.refl _ _, rfl⟩
          · cases ho
            obtain ⟨r4, s4⟩ := hd ⟨4, .data⟩ (by simp) rfl
            replace r4 : v 4 = .pointer (some (ad.add (k * 2))) := r4
            have e4 := s4 _ 59 rfl rfl
            rw [r4] at e4
            clear hd hN
            exact wp_val (.int .i64 sid) (w1 := w') (by go_simp) ⟨_, rfl, Below.refl _ _, rfl⟩
          · cases ho
            obtain ⟨r5, s5⟩ := hd ⟨5, .data⟩ (by simp) rfl
            replace r5 : v 5 = .int .i64 sid := r5
            have e5 := s5 _ 60 rfl rfl
            rw [r5] at e5
            clear hd hN
            exact wp_val (.int .u8 sid) (w1 := w') (by go_simp) ⟨_, rfl, Below.refl _ _, rfl⟩
          · cases ho
            obtain ⟨r6, s6⟩ := hd ⟨6, .data⟩ (by simp) rfl
            replace r6 : v 6 = .int .u8 sid := r6
            have e6 := s6 _ 61 rfl rfl
            rw [r6] at e6
            clear hd hN
            refine wp_val (.slice (some ⟨w'.heap.size, 0, none⟩) 1 1) (w1 := w'.alloc (.cells #[.int .u8 sid] 5)) (by go_simp) ⟨_, rfl, (Below.refl _ _).alloc (Nat.le_refl _) _, ByteAt.new _ _⟩
          · cases ho
            obtain ⟨r7, s7⟩ := hd ⟨7, .data⟩ (by simp) rfl
            replace r7 : (fun (v : Value) (w : World) => ByteAt w v sid) (v 7) w' := r7
            simp only at r7
            have e7 := s7 _ 62 rfl rfl
            clear hd hN
            have hc := hcv.out _ _ r7
            exact wp_val (.string (Pl.str [x])) (w1 := w') (by go_simp) ⟨_, rfl, Below.refl _ _, rfl⟩
          · cases ho
            have es2 : b.tmps[2]?.getD undef = .slice (some ad) l.length c := hN 2 (by rfl)
            clear hd hN
            exact wp_val (.slice (some ad) l.length c) (w1 := w') (by go_simp) ⟨_, rfl, Below.refl _ _, rfl⟩
          · cases ho
            have es9 : b.tmps[9]?.getD undef = .int .i64 k := hN 9 (by rfl)
            clear hd hN
            exact wp_val (.int .i64 k) (w1 := w') (by go_simp) ⟨_, rfl, Below.refl _ _, rfl⟩
          · cases ho
            obtain ⟨r9, s9⟩ := hd ⟨9, .data⟩ (by simp) rfl
            replace r9 : v 9 = .slice (some ad) l.length c := r9
            have e9 := s9 _ 64 rfl rfl
            rw [r9] at e9
            obtain ⟨r10, s10⟩ := hd ⟨10, .data⟩ (by simp) rfl
            replace r10 : v 10 = .int .i64 k := r10
            have e10 := s10 _ 65 rfl rfl
            rw [r10] at e10
            clear hd hN
            exact wp_val (.pointer (some (ad.add (k * 2)))) (w1 := w') (by go_simp) ⟨_, rfl, Below.refl _ _, rfl⟩
          · cases ho
            obtain ⟨r11, s11⟩ := hd ⟨11, .data⟩ (by simp) rfl
            replace r11 : v 11 = .pointer (some (ad.add (k * 2))) := r11
            have e11 := s11 _ 66 rfl rfl
            rw [r11] at e11
            clear hd hN
            exact wp_val (.pointer (some ⟨(ad.add (k * 2)).block, (ad.add (k * 2)).off + 1, none⟩)) (w1 := w') (by go_simp) ⟨_, rfl, Below.refl _ _, rfl⟩
          · cases ho
            obtain ⟨r12, s12⟩ := hd ⟨12, .data⟩ (by simp) rfl
            replace r12 : v 12 = .pointer (some ⟨(ad.add (k * 2)).block, (ad.add (k * 2)).off + 1, none⟩) := r12
            have e12 := s12 _ 67 rfl rfl
            rw [r12] at e12
            clear hd hN
            exact wp_val (.string (Pl.str pay)) (w1 := w') (by go_simp) ⟨_, rfl, Below.refl _ _, rfl⟩
          · cases ho
            obtain ⟨r13, s13⟩ := hd ⟨13, .data⟩ (by simp) rfl
            replace r13 : v 13 = .string (Pl.str pay) := r13
            have e13 := s13 _ 68 rfl rfl
            rw [r13] at e13
            clear hd hN
            exact wp_val (.int .i64 pay.length) (w1 := w') (by go_simp) ⟨_, rfl, Below.refl _ _, rfl⟩
          · cases ho
            obtain ⟨r14, s14⟩ := hd ⟨14, .data⟩ (by simp) rfl
            replace r14 : v 14 = .int .i64 pay.length := r14
            have e14 := s14 _ 69 rfl rfl
            rw [r14] at e14
            clear hd hN
            exact wp_val (.int .u64 pay.length) (w1 := w') (by go_simp) ⟨_, rfl, Below.refl _ _, rfl⟩
          · cases ho
            obtain ⟨r15, s15⟩ := hd ⟨15, .data⟩ (by simp) rfl
            replace r15 : v 15 = .int .u64 pay.length := r15
            have e15 := s15 _ 70 rfl rfl
            rw [r15] at e15
            clear hd hN
            refine wp_call _ #[.int .u64 pay.length] (w1 := w') (by go_simp) ((r01_put (pay.length + 1) pay.length w' (by omega) (by have := HPS.out; omega)).mono ?_)
            rintro en w5 ⟨rfl, hb⟩
            exact ⟨_, rfl, _, rfl, hb, rfl⟩
          · cases ho
            obtain ⟨r8, s8⟩ := hd ⟨8, .data⟩ (by simp) rfl
            replace r8 : v 8 = .string (Pl.str [x]) := r8
            have e8 := s8 _ 63 rfl rfl
            rw [r8] at e8
            obtain ⟨r16, s16⟩ := hd ⟨16, .data⟩ (by simp) rfl
            replace r16 : v 16 = .string (Pl.str (Pl.vPut pay.length)) := r16
            have e16 := s16 _ 71 rfl rfl
            rw [r16] at e16
            clear hd hN
            exact wp_val (.string (Pl.str X1)) (w1 := w') (by go_simp) ⟨_, rfl, Below.refl _ _, rfl⟩
          · cases ho
            have es2 : b.tmps[2]?.getD undef = .slice (some ad) l.length c := hN 2 (by rfl)
            clear hd hN
            exact wp_val (.slice (some ad) l.length c) (w1 := w') (by go_simp) ⟨_, rfl, Below.refl _ _, rfl⟩
          · cases ho
            have es9 : b.tmps[9]?.getD undef = .int .i64 k := hN 9 (by rfl)
            clear hd hN
            exact wp_val (.int .i64 k) (w1 := w') (by go_simp) ⟨_, rfl, Below.refl _ _, rfl⟩
          · cases ho
            obtain ⟨r18, s18⟩ := hd ⟨18, .data⟩ (by simp) rfl
            replace r18 : v 18 = .slice (some ad) l.length c := r18
            have e18 := s18 _ 73 rfl rfl
            rw [r18] at e18
            obtain ⟨r19, s19⟩ := hd ⟨19, .data⟩ (by simp) rfl
            replace r19 : v 19 = .int .i64 k := r19
            have e19 := s19 _ 74 rfl rfl
            rw [r19] at e19
            clear hd hN
            exact wp_val (.pointer (some (ad.add (k * 2)))) (w1 := w') (by go_simp) ⟨_, rfl, Below.refl _ _, rfl⟩
          · cases ho
            obtain ⟨r20, s20⟩ := hd ⟨20, .data⟩ (by simp) rfl
            replace r20 : v 20 = .pointer (some (ad.add (k * 2))) := r20
            have e20 := s20 _ 75 rfl rfl
            rw [r20] at e20
            clear hd hN
            exact wp_val (.pointer (some ⟨(ad.add (k * 2)).block, (ad.add (k * 2)).off + 1, none⟩)) (w1 := w') (by go_simp) ⟨_, rfl, Below.refl _ _, rfl⟩
          · cases ho
            obtain ⟨r21, s21⟩ := hd ⟨21, .data⟩ (by simp) rfl
            replace r21 : v 21 = .pointer (some ⟨(ad.add (k * 2)).block, (ad.add (k * 2)).off + 1, none⟩) := r21
            have e21 := s21 _ 76 rfl rfl
            rw [r21] at e21
            clear hd hN
            exact wp_val (.string (Pl.str pay)) (w1 := w') (by go_simp) ⟨_, rfl, Below.refl _ _, rfl⟩
          · cases ho
            obtain ⟨r17, s17⟩ := hd ⟨17, .data⟩ (by simp) rfl
            replace r17 : v 17 = .string (Pl.str X1) := r17
            have e17 := s17 _ 72 rfl rfl
            rw [r17] at e17
            obtain ⟨r22, s22⟩ := hd ⟨22, .data⟩ (by simp) rfl
            replace r22 : v 22 = .string (Pl.str pay) := r22
            have e22 := s22 _ 77 rfl rfl
            rw [r22] at e22
            clear hd hN
            exact wp_val (.string (Pl.str X2)) (w1 := w') (by go_simp) ⟨_, rfl, Below.refl _ _, rfl⟩
          · cases ho
            have es2 : b.tmps[2]?.getD undef = .slice (some ad) l.length c := hN 2 (by rfl)
            clear hd hN
            exact wp_val (.slice (some ad) l.length c) (w1 := w') (by go_simp) ⟨_, rfl, Below.refl _ _, rfl⟩
          · cases ho
            have es9 : b.tmps[9]?.getD undef = .int .i64 k := hN 9 (by rfl)
            clear hd hN
            exact wp_val (.int .i64 k) (w1 := w') (by go_simp) ⟨_, rfl, Below.refl _ _, rfl⟩
          · cases ho
            obtain ⟨r24, s24⟩ := hd ⟨24, .data⟩ (by simp) rfl
            replace r24 : v 24 = .slice (some ad) l.length c := r24
            have e24 := s24 _ 79 rfl rfl
            rw [r24] at e24
            obtain ⟨r25, s25⟩ := hd ⟨25, .data⟩ (by simp) rfl
            replace r25 : v 25 = .int .i64 k := r25
            have e25 := s25 _ 80 rfl rfl
            rw [r25] at e25
            clear hd hN
            exact wp_val (.pointer (some (ad.add (k * 2)))) (w1 := w') (by go_simp) ⟨_, rfl, Below.refl _ _, rfl⟩
          · cases ho
            obtain ⟨r26, s26⟩ := hd ⟨26, .data⟩ (by simp) rfl
            replace r26 : v 26 = .pointer (some (ad.add (k * 2))) := r26
            have e26 := s26 _ 81 rfl rfl
            rw [r26] at e26
            clear hd hN
            exact wp_val (.pointer (some ⟨(ad.add (k * 2)).block, (ad.add (k * 2)).off + 1, none⟩)) (w1 := w') (by go_simp) ⟨_, rfl, Below.refl _ _, rfl⟩
          · cases ho
            obtain ⟨r27, s27⟩ := hd ⟨27, .data⟩ (by simp) rfl
            replace r27 : v 27 = .pointer (some ⟨(ad.add (k * 2)).block, (ad.add (k * 2)).off + 1, none⟩) := r27
            have e27 := s27 _ 82 rfl rfl
            rw [r27] at e27
            clear hd hN
            exact wp_val (.string (Pl.str pay)) (w1 := w') (by go_simp) ⟨_, rfl, Below.refl _ _, rfl⟩
          · cases ho
            obtain ⟨r28, s28⟩ := hd ⟨28, .data⟩ (by simp) rfl
            replace r28 : v 28 = .string (Pl.str pay) := r28
            have e28 := s28 _ 83 rfl rfl
            rw [r28] at e28
            clear hd hN
            refine wp_call _ #[.string (Pl.str pay)] (w1 := w') (by go_simp) ((r03_sum (Pl.str pay) w' (by rw [hp]; exact HP.out)).mono ?_)
            rintro en w5 ⟨rfl, rfl⟩
            exact ⟨_, rfl, _, rfl, Below.refl _ _, (by show Value.int .u32 _ = Value.int .u32 _; rw [str_list])⟩
          · cases ho
            obtain ⟨r29, s29⟩ := hd ⟨29, .data⟩ (by simp) rfl
            replace r29 : v 29 = .int .u32 (Pl.crc pay) := r29
            have e29 := s29 _ 84 rfl rfl
            rw [r29] at e29
            clear hd hN
            refine wp_call _ #[.int .u32 (Pl.crc pay)] (w1 := w') (by go_simp) ((r03_put (Pl.crc pay) w' (Pl.crc_lt _)).mono ?_)
            rintro en w5 ⟨rfl, hb⟩
            exact ⟨_, rfl, _, rfl, hb, rfl⟩
          · cases ho
            obtain ⟨r23, s23⟩ := hd ⟨23, .data⟩ (by simp) rfl
            replace r23 : v 23 = .string (Pl.str X2) := r23
            have e23 := s23 _ 78 rfl rfl
            rw [r23] at e23
            obtain ⟨r30, s30⟩ := hd ⟨30, .data⟩ (by simp) rfl
            replace r30 : v 30 = .string (Pl.str (Pl.crcPut (Pl.crc pay))) := r30
            have e30 := s30 _ 85 rfl rfl
            rw [r30] at e30
            clear hd hN
            exact wp_val (.string (Pl.str X3)) (w1 := w') (by go_simp) ⟨_, rfl, Below.refl _ _, rfl⟩
          · cases ho
            obtain ⟨r0, s0⟩ := hd ⟨0, .data⟩ (by simp) rfl
            replace r0 : v 0 = .string (Pl.str L) := r0
            have e0 := s0 _ 55 rfl rfl
            rw [r0] at e0
            obtain ⟨r31, s31⟩ := hd ⟨31, .data⟩ (by simp) rfl
            replace r31 : v 31 = .string (Pl.str X3) := r31
            have e31 := s31 _ 86 rfl rfl
            rw [r31] at e31
            clear hd hN
            exact wp_val (.string (Pl.str L')) (w1 := w') (by go_simp) ⟨_, rfl, Below.refl _ _, rfl⟩
          · cases ho
            obtain ⟨r32, s32⟩ := hd ⟨32, .data⟩ (by simp) rfl
            replace r32 : v 32 = .string (Pl.str L') := r32
            have e32 := s32 _ 87 rfl rfl
            rw [r32] at e32
            clear hd hN
            exact wp_val (.string (Pl.str L')) (w1 := w') (by go_simp) ⟨_, rfl, Below.refl _ _, rfl⟩
        · intro v w' hW hR
          have v0 : v 0 = .string (Pl.str L) := hR 0 (by decide)
          have v1 : v 1 = .slice (some ad) l.length c := hR 1 (by decide)
          have v2 : v 2 = .int .i64 k := hR 2 (by decide)
          have v3 : v 3 = .pointer (some (ad.add (k * 2))) := hR 3 (by decide)
          have v4 : v 4 = .pointer (some (ad.add (k * 2))) := hR 4 (by decide)
          have v5 : v 5 = .int .i64 sid := hR 5 (by decide)
          have v6 : v 6 = .int .u8 sid := hR 6 (by decide)
          have v7 : (fun (v : Value) (w : World) => ByteAt w v sid) (v 7) w' := hR 7 (by decide)
          have v8 : v 8 = .string (Pl.str [x]) := hR 8 (by decide)
          have v9 : v 9 = .slice (some ad) l.length c := hR 9 (by decide)
          have v10 : v 10 = .int .i64 k := hR 10 (by decide)
          have v11 : v 11 = .pointer (some (ad.add (k * 2))) := hR 11 (by decide)
          have v12 : v 12 = .pointer (some ⟨(ad.add (k * 2)).block, (ad.add (k * 2)).off + 1, none⟩) := hR 12 (by decide)
          have v13 : v 13 = .string (Pl.str pay) := hR 13 (by decide)
          have v14 : v 14 = .int .i64 pay.length := hR 14 (by decide)
          have v15 : v 15 = .int .u64 pay.length := hR 15 (by decide)
          have v16 : v 16 = .string (Pl.str (Pl.vPut pay.length)) := hR 16 (by decide)
          have v17 : v 17 = .string (Pl.str X1) := hR 17 (by decide)
          have v18 : v 18 = .slice (some ad) l.length c := hR 18 (by decide)
          have v19 : v 19 = .int .i64 k := hR 19 (by decide)
          have v20 : v 20 = .pointer (some (ad.add (k * 2))) := hR 20 (by decide)
          have v21 : v 21 = .pointer (some ⟨(ad.add (k * 2)).block, (ad.add (k * 2)).off + 1, none⟩) := hR 21 (by decide)
          have v22 : v 22 = .string (Pl.str pay) := hR 22 (by decide)
          have v23 : v 23 = .string (Pl.str X2) := hR 23 (by decide)
          have v24 : v 24 = .slice (some ad) l.length c := hR 24 (by decide)
          have v25 : v 25 = .int .i64 k := hR 25 (by decide)
          have v26 : v 26 = .pointer (some (ad.add (k * 2))) := hR 26 (by decide)
          have v27 : v 27 = .pointer (some ⟨(ad.add (k * 2)).block, (ad.add (k * 2)).off + 1, none⟩) := hR 27 (by decide)
          have v28 : v 28 = .string (Pl.str pay) := hR 28 (by decide)
          have v29 : v 29 = .int .u32 (Pl.crc pay) := hR 29 (by decide)
          have v30 : v 30 = .string (Pl.str (Pl.crcPut (Pl.crc pay))) := hR 30 (by decide)
          have v31 : v 31 = .string (Pl.str X3) := hR 31 (by decide)
          have v32 : v 32 = .string (Pl.str L') := hR 32 (by decide)
          have v33 : v 33 = .string (Pl.str L') := hR 33 (by decide)
          have HB := Lib.hid hW
          clear hR hW
          simp only [putL, Act.put, if_true, v0, v1, v2, v3, v4, v5, v6, v8, v9, v10, v11, v12, v13, v14, v15, v16, v17, v18, v19, v20, v21, v22, v23, v24, v25, v26, v27, v28, v29, v30, v31, v32, v33]
          clear a1 a2 a3 a4 z1 z2 z3 z4 hcv
          go_simp
          go_wp2_with fail
          go_roundw
          case rel => exact ⟨k + 1, HL.out, by go_num, rfl, hb.out.trans (HB.out.mono hb.out.size), HALL.out⟩
          case measure => have := HL.out; simp only [intOf]; omega
    · have tl : decide ((k : Int) < l.length) = false := decide_eq_false (by omega)
      have hkk : l.length ≤ k := by omega
      rw [List.take_of_length_le hkk] at hall ⊢
      have HF : Hid ((pre ++ l.flatMap Pl.secBytes, 0) = res) := by
        unfold Hid
        rw [HFP.out, if_pos hall.out]
      clear hkk
      go_wp2_with fail
      go_ret2
      rw [← HF.out]
      exact ⟨rfl, hb.out⟩
end Go.Proofs.YtdejljgoebcmpaaDoor
/- Plain: the answers that awake asks for. -/
namespace Go.Proofs.YtdejljgoebcmpaaDoor.Pl
def aText : ByteArray := ⟨#[97]⟩
def aNode : Node := ⟨5, [], [aText], []⟩
def aScene : Scene := ⟨[aNode], 0⟩
def aPay : Bytes := [1, 5, 1, 97, 0]
def aFile : Bytes := frameBytes mag 1 [⟨1, aPay⟩]
theorem aReach (k : Int) : ¬ Reach [aNode] [] k := fun h =>
  Reach.closed (S := fun _ => False) (by simp) (fun _ h => h.elim) h
theorem aRight : Right [aNode] 0 := by
  refine ⟨by unfold isPlace; simp, fun n hn k hk => ?_, fun x hx hc => ?_, fun x hx => ?_⟩
  · obtain rfl : n = aNode := by simpa using hn
    simp [aNode] at hk
  · simp at hx
    subst hx
    exact aReach _ hc
  · simp at hx
    subst hx
    exact .base (by simp)
theorem aDepth : depthOf [aNode] 0 = 1 := by
  have : IsDepth [aNode] (fun _ => 1) := by
    intro x hx
    simp at hx
    subst hx
    rfl
  exact depthOf_right aRight this
theorem aTyped : typed oldSpec [aNode] 0 = (0, 0) := by decide +kernel
theorem aText_sum : textSum (textsOf [aNode]) [] = 1 := by
  show textSum [aText] [] = 1
  rw [textSum_cons, if_neg (by simp)]
  rfl
theorem aOk : OldOk aScene limAll := by
  refine ⟨by decide, ?_, aRight, ?_⟩
  · show (typed oldSpec [aNode] 0).1 = 0
    rw [aTyped]
  · show within (measure [aNode] 0) limAll = true
    unfold measure
    rw [aDepth, aText_sum]
    decide
theorem aRec : recBytes [aNode] = aPay := by
  unfold recBytes
  simp only [List.flatMap_cons, List.flatMap_nil, List.append_nil]
  unfold nodeBytes aNode
  simp only [List.flatMap_cons, List.flatMap_nil, List.append_nil, List.length_cons, List.length_nil]
  have : (5 : Int).toNat = 5 := rfl
  have h2 : aText.size = 1 := rfl
  rw [this, h2, vPut_lt (n := 0 + 1) (by omega), vPut_lt (n := 5) (by omega), vPut_lt (n := 0) (by omega)]
  rfl
theorem aFile_of : oldFile [aNode] = (aFile, 0) := by
  unfold oldFile framePut
  rw [aRec, if_pos (by decide)]
  rfl
theorem aFile_len : aFile.length = 16 := by
  unfold aFile frameBytes secBytes
  simp only [List.flatMap_cons, List.flatMap_nil, List.append_nil, List.length_append, List.length_cons]
  have h2 : aPay.length = 5 := rfl
  rw [h2, vPut_lt (n := 5) (by omega)]
  rfl
theorem aSave : oldSave aScene limAll = (aFile, 0) := by
  have hv : (oldValid aScene limAll).1 = 0 := oldValid_iff.2 aOk
  have hi : oldIs aScene = true := by
    unfold oldIs
    rw [if_neg (by simp [gCheck_ok.2 (show Right aScene.nodes aScene.root from aRight)]), if_neg (by simp [aScene])]
    rfl
  unfold oldSave
  rw [hv, hi]
  show (if (0 : Int) ≠ 0 then _ else if true = false then _ else if (oldFile [aNode]).2 ≠ 0 ∨ limAll.b < ((oldFile [aNode]).1.length : Int) then _ else ((oldFile [aNode]).1, 0)) = _
  rw [aFile_of, if_neg (by simp), if_neg (by simp), if_neg]
  rw [aFile_len]
  simp [limAll]
theorem aPut : framePut mag 1 [⟨1, aPay⟩] = (aFile, 0) := by
  unfold framePut
  rw [if_pos (by decide)]; rfl
theorem aLoad : oldLoad aFile limAll = (aScene, 0) := by
  have := (oldSave_ok (s := aScene) (lim := limAll) (by rw [aSave])).1
  rw [aSave] at this
  exact this
def bFile : Bytes := [68, 73, 79, 82, 2]
theorem bLoad : oldLoad bFile limAll = (⟨[], 0⟩, 7) := by
  have hg := fGet_put (mg := mag) (v := 2) (ss := []) (by omega) (by simp) (by simp)
  have hb : frameBytes mag 2 [] = bFile := rfl
  rw [hb] at hg
  unfold oldLoad
  rw [if_neg (by decide), if_neg (by decide), hg]
  simp
end Go.Proofs.YtdejljgoebcmpaaDoor.Pl
/- awake. -/
namespace Go.Proofs.YtdejljgoebcmpaaDoor
open Go.RowKit

/-- Within awake: its node's text, the node, the scene's box. -/
structure AwS (w w' : World) : Prop where
  tx : w'.heap[w.heap.size]? = some (.cells #[.string ⟨#[97]⟩] 9 (0, 0))
  nd : w'.heap[w.heap.size + 1]? = some (.cells #[.int .i64 5, .slice none 0 0, .slice (some ⟨w.heap.size, 0, none⟩) 1 1, .slice none 0 0] 43 (0, 0))
  sc : w'.heap[w.heap.size + 2]? = some (.cells #[.slice (some ⟨w.heap.size + 1, 0, none⟩) 1 1, .int .i64 0] 24 (0, 0))
  bel : Below w.heap.size w w'
namespace AwS
variable {w w1 w2 : World}
theorem box (w : World) : AwS w (((w.alloc (.cells #[.string ⟨#[97]⟩] 9)).alloc (.cells #[.int .i64 5, .slice none 0 0, .slice (some ⟨w.heap.size, 0, none⟩) 1 1, .slice none 0 0] 43)).alloc (.cells #[.slice (some ⟨w.heap.size + 1, 0, none⟩) 1 1, .int .i64 0] 24)) := by
  refine ⟨?_, ?_, ?_, (((Below.refl _ _).alloc (Nat.le_refl _) _).alloc (by simp) _).alloc (by simp; omega) _⟩
  · exact (Below.heap_alloc _ _ _ (by simp; omega)).trans ((Below.heap_alloc _ _ _ (by simp)).trans (heap_alloc_new w _))
  · refine (Below.heap_alloc _ _ _ (by simp)).trans ?_
    have := heap_alloc_new (w.alloc (.cells #[.string ⟨#[97]⟩] 9)) (.cells #[.int .i64 5, .slice none 0 0, .slice (some ⟨w.heap.size, 0, none⟩) 1 1, .slice none 0 0] 43)
    rwa [show (w.alloc (.cells #[.string ⟨#[97]⟩] 9)).heap.size = w.heap.size + 1 from by simp] at this
  · have := heap_alloc_new ((w.alloc (.cells #[.string ⟨#[97]⟩] 9)).alloc (.cells #[.int .i64 5, .slice none 0 0, .slice (some ⟨w.heap.size, 0, none⟩) 1 1, .slice none 0 0] 43)) (.cells #[.slice (some ⟨w.heap.size + 1, 0, none⟩) 1 1, .int .i64 0] 24)
    rwa [show ((w.alloc (.cells #[.string ⟨#[97]⟩] 9)).alloc (.cells #[.int .i64 5, .slice none 0 0, .slice (some ⟨w.heap.size, 0, none⟩) 1 1, .slice none 0 0] 43)).heap.size = w.heap.size + 2 from by simp] at this
theorem step (h : AwS w w1) (hb : Below w1.heap.size w1 w2) : AwS w w2 :=
  ⟨(hb.block _ (Array.getElem?_eq_some_iff.1 h.tx).1).trans h.tx, (hb.block _ (Array.getElem?_eq_some_iff.1 h.nd).1).trans h.nd, (hb.block _ (Array.getElem?_eq_some_iff.1 h.sc).1).trans h.sc, h.bel.trans (hb.mono h.bel.size)⟩
theorem drew (h : AwS w w1) : AwS w w1.drew := ⟨h.tx, h.nd, h.sc, h.bel.drew⟩
theorem nodes (h : AwS w w1) : RNodes w1 (.slice (some ⟨w.heap.size + 1, 0, none⟩) 1 1) Pl.aScene.nodes := by
  refine ⟨some ⟨w.heap.size + 1, 0, none⟩, 1, rfl, fun _ => ⟨_, rfl, fun j hj => ?_⟩⟩
  have hj0 : j = 0 := by simp [Pl.aScene] at hj; exact hj
  subst hj0
  obtain ⟨c0, c1, c2, c3⟩ := cells4 h.nd
  have ct : w1.cell? ⟨w.heap.size, 0, none⟩ = some (.string ⟨#[97]⟩) := by rw [cell_row h.tx]; rfl
  refine ⟨_, _, _, c0, c1, c2, c3, ⟨none, 0, rfl, fun h => by simp [Pl.aScene, Pl.aNode] at h⟩, ⟨some ⟨w.heap.size, 0, none⟩, 1, rfl, fun _ => ⟨_, rfl, fun i hi => ?_⟩⟩, ⟨none, 0, rfl, fun h => by simp [Pl.aScene, Pl.aNode] at h⟩⟩
  have hi0 : i = 0 := by simp [Pl.aScene, Pl.aNode] at hi; exact hi
  subst hi0
  exact ct
end AwS
/-- .. and a scene's box, of the same nodes. -/
structure AwT (w : World) (g : Nat) (v : Value) (w' : World) : Prop where
  s : AwS w w'
  bx : w'.heap[g]? = some (.cells #[v, .int .i64 0] 24 (0, 0))
  nd : RNodes w' v Pl.aScene.nodes
theorem AwT.step {w w1 w2 : World} {g : Nat} {v : Value} (h : AwT w g v w1) (hb : Below w1.heap.size w1 w2) : AwT w g v w2 :=
  ⟨h.s.step hb, (hb.block _ (Array.getElem?_eq_some_iff.1 h.bx).1).trans h.bx, h.nd.below hb⟩
theorem AwT.drew {w w1 : World} {g : Nat} {v : Value} (h : AwT w g v w1) : AwT w g v w1.drew := h.step ⟨rfl, rfl, rfl, Nat.le_refl _, fun _ _ => rfl⟩
theorem aSm : Pl.Sm Pl.aScene.nodes := by
  refine ⟨by simp [Pl.aScene], fun n hn => ?_, fun n hn => ?_, fun n hn => ?_, fun n hn t ht => ?_⟩
  all_goals (obtain rfl : n = Pl.aNode := by simpa [Pl.aScene] using hn)
  · simp [Pl.aNode]
  · simp [Pl.aNode]
  · simp [Pl.aNode]
  · obtain rfl : t = Pl.aText := by simpa [Pl.aNode] using ht
    decide

set_option maxHeartbeats 2000000 in
set_option maxRecDepth 100000 in
theorem law_awake (w : World) (hT : Lib.Utf8Tabs 0 1 w) :
    Calls Tryd.prog 5 #[] w fun en w' => en = .returned (.bool true) ∧ Below w.heap.size w w' := by
  have HSv : Hid (∀ w1, AwS w w1 → Calls Tryd.prog 7 #[.agg #[.slice (some ⟨w.heap.size + 1, 0, none⟩) 1 1, .int .i64 0], limV Pl.limAll] w1 fun en w' => en = .returned (.tuple #[.string (Pl.str Pl.aFile), .int .i64 0]) ∧ Below w1.heap.size w1 w') := fun w1 h => by
    have := of_save (.slice (some ⟨w.heap.size + 1, 0, none⟩) 1 1) Pl.aScene Pl.limAll w1 (tabs_below hT h.bel) h.nodes aSm
    rw [Pl.aSave] at this
    exact this
  have HPt : Hid (∀ w1 g, w1.heap[g]? = some (.cells #[.int .i64 1, .string ⟨#[1, 5, 1, 97, 0]⟩] 48 (0, 0)) → Calls Tryd.prog 13 #[.string ⟨#[68, 73, 79, 82]⟩, .int .i64 1, .slice (some ⟨g, 0, none⟩) 1 1] w1 fun en w' => en = .returned (.tuple #[.string (Pl.str Pl.aFile), .int .i64 0]) ∧ Below w1.heap.size w1 w') := fun w1 g h => by
    have := r04_put ⟨#[68, 73, 79, 82]⟩ 1 (some ⟨g, 0, none⟩) 1 [⟨1, Pl.aPay⟩] w1 (fun _ => ⟨_, rfl, fun j hj => by
      have hj0 : j = 0 := by simpa using hj
      subst hj0
      obtain ⟨c0, c1⟩ := cells2 h
      exact ⟨c0, c1⟩⟩) rfl (by omega) (by simp) (by simp) (by simp [Pl.aPay])
    rw [show (⟨#[68, 73, 79, 82]⟩ : ByteArray).data.toList = Pl.mag from rfl, Pl.aPut] at this
    exact this
  have HLd : Hid (∀ w1, Below w.heap.size w w1 → Calls Tryd.prog 8 #[.string (Pl.str Pl.aFile), limV Pl.limAll] w1 fun en w' => (∃ v, en = .returned (.tuple #[.agg #[v, .int .i64 0], .int .i64 0]) ∧ RNodes w' v Pl.aScene.nodes) ∧ Below w1.heap.size w1 w') := fun w1 h => by
    have := of_load (Pl.str Pl.aFile) Pl.limAll w1 (tabs_below hT h) (by rw [str_size', Pl.aFile_len]; decide)
    rw [str_list, Pl.aLoad] at this
    refine this.mono ?_
    rintro en w' ⟨⟨v, ts, rfl, ho, hn⟩, hb⟩
    have h2 := ho.nodes
    rw [hn] at h2
    exact ⟨⟨v, rfl, h2⟩, hb⟩
  have HLe : Hid (∀ w1, Below w.heap.size w w1 → Calls Tryd.prog 8 #[.string ⟨#[68, 73, 79, 82, 2]⟩, limV Pl.limAll] w1 fun en w' => (∃ A n c, en = .returned (.tuple #[.agg #[.slice A n c, .int .i64 0], .int .i64 7])) ∧ Below w1.heap.size w1 w') := fun w1 h => by
    have := of_load ⟨#[68, 73, 79, 82, 2]⟩ Pl.limAll w1 (tabs_below hT h) (by decide)
    rw [show (⟨#[68, 73, 79, 82, 2]⟩ : ByteArray).data.toList = Pl.bFile from rfl, Pl.bLoad] at this
    refine this.mono ?_
    rintro en w' ⟨⟨v, ts, rfl, ho, _⟩, hb⟩
    obtain ⟨A, c, rfl⟩ := own_slice ho.row
    exact ⟨⟨A, _, c, rfl⟩, hb⟩
  have HS0 := Lib.hid (AwS.box w).drew
  clear hT
  go_enter Tryd.func5, Tryd.ntmps5
  go_upto_region 2 with (fail)
  generalize ((w.alloc (.cells #[.string ⟨#[97]⟩] 9)).alloc (.cells #[.int .i64 5, .slice none 0 0, .slice (some ⟨w.heap.size, 0, none⟩) 1 1, .slice none 0 0] 43)).alloc (.cells #[.slice (some ⟨w.heap.size + 1, 0, none⟩) 1 1, .int .i64 0] 24) = w0 at *
  obtain ⟨a0, a1⟩ := cells2 HS0.out.sc
  go_cut [2, 3] (fun v u wx => v = .string (Pl.str Pl.aFile) ∧ u = .int .i64 0 ∧ Hid (AwS w wx))
  case first =>
    go_region_with (first
      | (go_at_call 12; refine (r12_wide _).mono ?_; rintro en w1 ⟨rfl, hb1⟩; have HS1 := Lib.hid (HS0.out.step hb1); obtain ⟨b0, b1⟩ := cells2 HS1.out.sc; clear hb1)
      | (go_at_call 7; refine (HSv.out _ HS1.out).mono ?_; rintro en w2 ⟨rfl, hb2⟩; have HS2 := Lib.hid (HS1.out.step hb2); clear hb2))
    all_goals (
      go_wp2_with fail
      go_meet
      exact ⟨rfl, rfl, HS2⟩)
  case rest =>
    obtain ⟨rfl, rfl, HS2⟩ := hcut
    clear HS0 a0 a1
    go_wp2_with fail
    refine (HPt.out _ _ (heap_alloc_new _ _)).mono ?_
    rintro en w3 ⟨rfl, hb3⟩
    have HS3 := Lib.hid ((HS2.out.step ((Below.refl _ _).alloc (Nat.le_refl _) _)).step hb3)
    clear hb3 HS2 HPt
    go_wp2_with fail
    refine (r12_wide _).mono ?_
    rintro en w4 ⟨rfl, hb4⟩
    have HS4 := Lib.hid (HS3.out.step hb4)
    clear hb4 HS3
    go_wp2_with fail
    refine (HLd.out _ HS4.out.bel).mono ?_
    rintro en w5 ⟨⟨v, rfl, hv⟩, hb5⟩
    have HS5 := Lib.hid (HS4.out.step hb5)
    have HV5 := Lib.hid hv
    obtain ⟨VA, vc, rfl⟩ : ∃ A c, v = .slice A Pl.aScene.nodes.length c := by obtain ⟨A, c, rfl, _⟩ := hv; exact ⟨A, c, rfl⟩
    clear hb5 HS4 hv HLd
    go_wp2_with fail
    have HT6 : Hid (AwT w w5.heap.size (.slice VA Pl.aScene.nodes.length vc) (w5.alloc (.cells #[.slice VA Pl.aScene.nodes.length vc, .int .i64 0] 24))) :=
      ⟨HS5.out.step ((Below.refl _ _).alloc (Nat.le_refl _) _), heap_alloc_new _ _, HV5.out.below ((Below.refl _ _).alloc (Nat.le_refl _) _)⟩
    refine (r12_wide _).mono ?_
    rintro en w7 ⟨rfl, hb7⟩
    have HT7 := Lib.hid (HT6.out.step hb7)
    clear hb7 HT6 HV5 HS5
    generalize w5.heap.size = g at *
    go_wp2_with fail
    refine (HLe.out _ HT7.out.s.bel).mono ?_
    rintro en w8 ⟨⟨UA, un, uc, rfl⟩, hb8⟩
    have HT8 := Lib.hid (HT7.out.step hb8)
    clear hb8 HT7 HLe
    go_upto_region 6 with (fail)
    have HT9 : Hid (AwT w g (.slice VA Pl.aScene.nodes.length vc) (w8.alloc (.cells #[.slice UA un uc, .int .i64 0] 24))) := HT8.out.step ((Below.refl _ _).alloc (Nat.le_refl _) _)
    clear HT8
    obtain ⟨a0, a1⟩ := cells2 HT9.out.s.sc
    obtain ⟨b0, b1⟩ := cells2 HT9.out.bx
    have HSa := Lib.hid (r09_same (.slice VA Pl.aScene.nodes.length vc) (.slice (some ⟨w.heap.size + 1, 0, none⟩) 1 1) 0 Pl.aScene.nodes _ HT9.out.nd HT9.out.s.nodes aSm)
    generalize w8.alloc (.cells #[.slice UA un uc, .int .i64 0] 24) = w9 at *
    generalize w8.heap.size = g8 at *
    go_wp2_with fail
    refine HSa.out.mono ?_
    rintro en w10 ⟨rfl, hb10⟩
    have hB := Lib.hid (HT9.out.s.bel.trans (hb10.mono HT9.out.s.bel.size))
    clear hb10 HSa HT9
    go_wp2_with fail
    go_ret
    exact ⟨rfl, hB.out⟩
end Go.Proofs.YtdejljgoebcmpaaDoor
/- Plain: how great a file is, and what is loaded of one. -/
namespace Go.Proofs.YtdejljgoebcmpaaDoor.Pl
theorem flatMap_ge {α : Type} (f : α → Bytes) (h : ∀ x, 1 ≤ (f x).length) : ∀ l : List α, l.length ≤ (l.flatMap f).length
  | [] => by simp
  | x :: l => by
    rw [List.flatMap_cons, List.length_append, List.length_cons]
    have := flatMap_ge f h l
    have := h x
    omega
theorem flatMap_mem {α : Type} (f : α → Bytes) {x : α} : ∀ {l : List α}, x ∈ l → (f x).length ≤ (l.flatMap f).length
  | [], h => by simp at h
  | y :: l, h => by
    rw [List.flatMap_cons, List.length_append]
    rcases List.mem_cons.1 h with rfl | h
    · omega
    · have := flatMap_mem f h; omega
theorem nodeBytes_ge (n : Node) : 1 + n.ints.length + n.texts.length + n.kids.length ≤ (nodeBytes n).length ∧ ∀ t ∈ n.texts, t.size ≤ (nodeBytes n).length := by
  have h1 := flatMap_ge intB (fun x => vPut_pos _) n.ints
  have h2 := flatMap_ge textB (fun x => by unfold textB; rw [List.length_append]; have := vPut_pos x.size; omega) n.texts
  have h3 := flatMap_ge kidB (fun x => vPut_pos _) n.kids
  have h4 := vPut_pos n.kind.toNat
  have h5 := vPut_pos n.kids.length
  have e : (nodeBytes n).length = (vPut n.kind.toNat).length + ((n.ints.flatMap intB).length + ((n.texts.flatMap textB).length + ((vPut n.kids.length).length + (n.kids.flatMap kidB).length))) := by
    rw [nodeBytes_eq]; simp only [List.length_append]
  refine ⟨by omega, fun t ht => ?_⟩
  have h6 := flatMap_mem textB ht
  have h7 : t.size ≤ (textB t).length := by
    unfold textB
    rw [List.length_append]
    have : t.data.toList.length = t.size := by simp
    omega
  omega
theorem sm_of_rec {l : List Node} (h : (recBytes l).length ≤ 1048576) : Sm l := by
  have h0 : (l.flatMap nodeBytes).length ≤ 1048576 := by
    unfold recBytes at h; rw [List.length_append] at h; omega
  have h1 := flatMap_ge nodeBytes (fun n => by have := (nodeBytes_ge n).1; omega) l
  have hm := fun n (hn : n ∈ l) => flatMap_mem nodeBytes hn
  exact ⟨by omega, fun n hn => by have := hm n hn; have := (nodeBytes_ge n).1; omega, fun n hn => by have := hm n hn; have := (nodeBytes_ge n).1; omega,
    fun n hn => by have := hm n hn; have := (nodeBytes_ge n).1; omega, fun n hn t ht => by have := hm n hn; have := (nodeBytes_ge n).2 t ht; omega⟩
theorem frame_pay_le {mg : Bytes} {v : Nat} {s : Sec} : s.pay.length ≤ (frameBytes mg v [s]).length := by
  unfold frameBytes secBytes
  simp only [List.flatMap_cons, List.flatMap_nil, List.append_nil, List.length_append, List.length_cons]
  omega
theorem oldSave_file {s : Scene} {lim : Lim} (h : (oldSave s lim).2 = 0) : (oldSave s lim).1 = frameBytes mag 1 [⟨1, recBytes s.nodes⟩] := by
  unfold oldSave at h ⊢
  split at h
  · rename_i h1; exact absurd h h1
  · rename_i h1
    rw [if_neg h1]
    split at h
    · simp at h
    · rename_i h2
      rw [if_neg h2]
      split at h
      · simp at h
      · rename_i h3
        rw [if_neg h3]
        have h4 : (oldFile s.nodes).2 = 0 := Classical.byContradiction fun e => h3 (.inl e)
        unfold oldFile framePut at h4 ⊢
        split at h4
        · rename_i h5; rw [if_pos h5]
        · simp at h4
theorem oldLoad_sm {l : Bytes} {lim : Lim} (hl : l.length ≤ 1048576) : Sm (oldLoad l lim).1.nodes := by
  by_cases h : (oldLoad l lim).2 = 0
  · obtain ⟨_, _, h3⟩ := oldLoad_ok h
    generalize (oldLoad l lim).1 = s at *
    have h4 := oldSave_file (s := s) (lim := lim) (by rw [h3])
    rw [h3] at h4
    simp only at h4
    have := @frame_pay_le mag 1 ⟨1, recBytes s.nodes⟩
    simp only at this
    rw [← h4] at this
    exact sm_of_rec (by omega)
  · rw [oldLoad_err h]
    exact ⟨by simp, by simp, by simp, by simp, by simp⟩
theorem nodeBytes_le {n : Node} (h : PutOk n) (h1 : n.ints.length ≤ 4) (h2 : n.texts.length ≤ 1) (h3 : ∀ t ∈ n.texts, t.size ≤ 500) : (nodeBytes n).length ≤ 570 + 10 * n.kids.length := by
  have hv : ∀ m : Nat, m < 18446744073709551616 → (vPut m).length ≤ 10 := fun m hm => vPut_len m (by omega)
  have a1 := flatMap_take_len intB 10 n.ints n.ints.length (fun x hx => hv _ (by have := h.ints x hx; have := zig_lt x (by omega) (by omega); omega))
  have a2 := flatMap_take_len textB 510 n.texts n.texts.length (fun t ht => by
    have h1 := h3 t ht
    have h2 := hv t.size (by omega)
    unfold textB
    rw [List.length_append]
    have : t.data.toList.length = t.size := by simp
    omega)
  have a3 := flatMap_take_len kidB 10 n.kids n.kids.length (fun x hx => hv _ (by have := h.kids x hx; omega))
  rw [List.take_length] at a1 a2 a3
  have a4 := hv n.kind.toNat (by have := h.kind; omega)
  have a5 := hv n.kids.length (by have := h.lk; omega)
  rw [nodeBytes_eq]
  simp only [List.length_append]
  omega
theorem oldFile_len {l : List Node} (hs : Sm l) (hr : Refs l) (ht : (typed oldSpec l 0).1 = 0) (hg : SmallL l) : (oldFile l).1.length ≤ 1048576 := by
  have hp := putOk_of hs hr ht
  have : ∀ m : List Node, (∀ n ∈ m, n ∈ l) → (m.flatMap nodeBytes).length ≤ 570 * m.length + 10 * edges m := by
    intro m
    induction m with
    | nil => intro _; simp [edges]
    | cons n m ih =>
      intro h
      have h1 := ih (fun x hx => h x (List.mem_cons_of_mem _ hx))
      obtain ⟨h2, h3, h4⟩ := hp n (h n (by simp))
      have h5 := nodeBytes_le h2 h3 h4 (hg.each n (h n (by simp))).size
      rw [List.flatMap_cons, List.length_append, edges_cons, List.length_cons]
      omega
  have h1 := this l (fun _ h => h)
  have h2 := hg.len
  have h3 := hg.edges
  have h4 := vPut_len l.length (by omega)
  have h5 : (recBytes l).length ≤ 40000 := by unfold recBytes; rw [List.length_append]; omega
  have h6 := secBytes_len ⟨1, recBytes l⟩ (by simp only; omega)
  have h7 := vPut_len (recBytes l).length (by omega)
  unfold oldFile framePut
  split
  · unfold frameBytes
    simp only [List.flatMap_cons, List.flatMap_nil, List.append_nil, List.length_append, List.length_cons, mag, List.length_nil]
    unfold secBytes
    simp only [List.length_append, List.length_cons, crcPut, List.length_nil]
    omega
  · simp
end Go.Proofs.YtdejljgoebcmpaaDoor.Pl
/- The law OldfileOne's body. -/
namespace Go.Proofs.YtdejljgoebcmpaaDoor
open Go.RowKit

/-- Within a law's body: the limits' box. -/
structure LwS (w : World) (lim : Pl.Lim) (w' : World) : Prop where
  bel : Below w.heap.size w w'
  lr : w'.heap[w.heap.size]? = some (.cells (limC lim) 26 (0, 0))
namespace LwS
variable {w w1 w2 : World} {lim : Pl.Lim}
theorem box (w : World) (lim : Pl.Lim) : LwS w lim (w.alloc (.cells (limC lim) 26)) := ⟨(Below.refl _ _).alloc (Nat.le_refl _) _, heap_alloc_new w _⟩
theorem step (h : LwS w lim w1) (hb : Below w1.heap.size w1 w2) : LwS w lim w2 := ⟨h.bel.trans (hb.mono h.bel.size), (hb.block _ (Array.getElem?_eq_some_iff.1 h.lr).1).trans h.lr⟩
theorem drew (h : LwS w lim w1) : LwS w lim w1.drew := ⟨h.bel.drew, h.lr⟩
theorem lcells (h : LwS w lim w1) : w1.cell? ⟨w.heap.size, 0, none⟩ = some (.int .i64 lim.b) ∧ w1.cell? ⟨w.heap.size, 1, none⟩ = some (.int .i64 lim.n) ∧ w1.cell? ⟨w.heap.size, 2, none⟩ = some (.int .i64 lim.e) ∧ w1.cell? ⟨w.heap.size, 3, none⟩ = some (.int .i64 lim.d) ∧ w1.cell? ⟨w.heap.size, 4, none⟩ = some (.int .i64 lim.t) := cells5 h.lr
end LwS
/-- .. and a scene's box, of these nodes. -/
structure LwT (w : World) (lim : Pl.Lim) (g : Nat) (v : Value) (ns : List Pl.Node) (w' : World) : Prop where
  s : LwS w lim w'
  bx : w'.heap[g]? = some (.cells #[v, .int .i64 0] 24 (0, 0))
  nd : RNodes w' v ns
theorem LwT.step {w w1 w2 : World} {lim : Pl.Lim} {g : Nat} {v : Value} {ns : List Pl.Node} (h : LwT w lim g v ns w1) (hb : Below w1.heap.size w1 w2) : LwT w lim g v ns w2 :=
  ⟨h.s.step hb, (hb.block _ (Array.getElem?_eq_some_iff.1 h.bx).1).trans h.bx, h.nd.below hb⟩

set_option maxHeartbeats 2000000 in
set_option maxRecDepth 100000 in
theorem law_one (b : ByteArray) (lim : Pl.Lim) (w : World) (hT : Lib.Utf8Tabs 0 1 w) :
    Calls Tryd.prog 4 #[.string b, limV lim] w fun en w' => en = .returned (.bool true) ∧ Below w.heap.size w w' := by
  have HA : Hid (∀ w1, Below w.heap.size w w1 → Calls Tryd.prog 5 #[] w1 fun en w' => en = .returned (.bool true) ∧ Below w1.heap.size w1 w') := fun w1 h => law_awake w1 (tabs_below hT h)
  have HS0 := Lib.hid (LwS.box w lim)
  simp only [limV] at *
  go_enter Tryd.func4, Tryd.ntmps4
  have hlc : limC lim = #[.int .i64 lim.b, .int .i64 lim.n, .int .i64 lim.e, .int .i64 lim.d, .int .i64 lim.t] := rfl
  rw [hlc] at HS0
  go_wp2_with fail
  refine (HA.out _ HS0.out.bel).mono ?_
  rintro en w1 ⟨rfl, hb1⟩
  have HS1 := Lib.hid (HS0.out.step hb1)
  clear hb1 HS0
  by_cases hbig : (2000 : Int) < b.size
  · have t1 : decide ((2000 : Int) < b.size) = true := decide_eq_true hbig
    have t2 : decide (2000 < b.size) = true := decide_eq_true (by omega)
    go_wp2_with fail
    refine (HA.out _ HS1.out.bel).mono ?_
    rintro en w2 ⟨rfl, hb2⟩
    have HS2 := Lib.hid (HS1.out.step hb2)
    clear hb2 HS1
    go_wp2_with fail
    go_ret
    exact ⟨rfl, HS2.out.bel⟩
  · have t1 : decide ((2000 : Int) < b.size) = false := decide_eq_false hbig
    have t2 : decide (2000 < b.size) = false := decide_eq_false (by omega)
    have hbl : b.data.toList.length = b.size := by simp
    have HLd := Lib.hid (of_load b lim w1 (tabs_below hT HS1.out.bel) (by omega))
    have HSm : Hid (Pl.Sm (Pl.oldLoad b.data.toList lim).1.nodes) := Pl.oldLoad_sm (by omega)
    have HOk : Hid ((Pl.oldLoad b.data.toList lim).2 = 0 → Pl.oldValid (Pl.oldLoad b.data.toList lim).1 lim = (0, 0) ∧ Pl.oldIs (Pl.oldLoad b.data.toList lim).1 = true ∧ Pl.oldSave (Pl.oldLoad b.data.toList lim).1 lim = (b.data.toList, 0) ∧ (Pl.oldLoad b.data.toList lim).1.root = 0) := fun h => by
      obtain ⟨h1, h2, h3⟩ := Pl.oldLoad_ok h
      refine ⟨h1, h2, h3, ?_⟩
      unfold Pl.oldIs at h2
      split at h2
      · cases h2
      · split at h2
        · cases h2
        · rename_i h4; simpa using h4
    have HEr : Hid ((Pl.oldLoad b.data.toList lim).2 ≠ 0 → (Pl.oldLoad b.data.toList lim).1.nodes = []) := fun h => by rw [Pl.oldLoad_err h]
    generalize Pl.oldLoad b.data.toList lim = r at *
    obtain ⟨⟨ns, ro⟩, e⟩ := r
    simp only at HLd HSm HOk HEr
    obtain ⟨l0, l1, l2, l3, l4⟩ := HS1.out.lcells
    clear hbig hbl
    go_wp2_with fail
    refine HLd.out.mono ?_
    rintro en w2 ⟨⟨v, ts, rfl, ho, hts⟩, hb2⟩
    have HS2 := Lib.hid (HS1.out.step hb2)
    have hn := ho.nodes
    rw [hts] at hn
    have HN := Lib.hid hn
    obtain ⟨VA, vc, rfl⟩ : ∃ A c, v = .slice A ns.length c := by obtain ⟨A, c, rfl, _⟩ := hn; exact ⟨A, c, rfl⟩
    clear hb2 HS1 hn ho hts ts HLd l0 l1 l2 l3 l4
    have HT2 : Hid (LwT w lim w2.heap.size (.slice VA ns.length vc) ns (w2.alloc (.cells #[.slice VA ns.length vc, .int .i64 0] 24))) :=
      ⟨HS2.out.step ((Below.refl _ _).alloc (Nat.le_refl _) _), heap_alloc_new _ _, HN.out.below ((Below.refl _ _).alloc (Nat.le_refl _) _)⟩
    clear HS2 HN
    go_upto_region 4 with (fail)
    generalize w2.alloc (.cells #[.slice VA ns.length vc, .int .i64 0] 24) = w3 at *
    generalize w2.heap.size = g at *
    obtain ⟨b0, b1⟩ := cells2 HT2.out.bx
    obtain ⟨l0, l1, l2, l3, l4⟩ := HT2.out.s.lcells
    by_cases he : e = 0
    · subst he
      obtain ⟨k1, k2, k3, k4⟩ := HOk.out rfl
      subst k4
      have HSv : Hid (∀ w1, LwT w lim g (.slice VA ns.length vc) ns w1 → Calls Tryd.prog 7 #[.agg #[.slice VA ns.length vc, .int .i64 0], .agg #[.int .i64 lim.b, .int .i64 lim.n, .int .i64 lim.e, .int .i64 lim.d, .int .i64 lim.t]] w1 fun en w' => en = .returned (.tuple #[.string b, .int .i64 0]) ∧ Below w1.heap.size w1 w') := fun w1 h => by
        have := of_save (.slice VA ns.length vc) ⟨ns, 0⟩ lim w1 (tabs_below hT h.s.bel) h.nd HSm.out
        rw [k3] at this
        simp only [str_data] at this
        exact this
      have HVl : Hid (∀ w1, LwT w lim g (.slice VA ns.length vc) ns w1 → Calls Tryd.prog 10 #[.agg #[.slice VA ns.length vc, .int .i64 0], .agg #[.int .i64 lim.b, .int .i64 lim.n, .int .i64 lim.e, .int .i64 lim.d, .int .i64 lim.t]] w1 fun en w' => en = .returned (.tuple #[.int .i64 0, .int .i64 0]) ∧ Below w1.heap.size w1 w') := fun w1 h => by
        have := old_valid (.slice VA ns.length vc) ⟨ns, 0⟩ lim w1 (tabs_below hT h.s.bel) h.nd HSm.out
        rw [k1] at this
        exact this
      have HIs : Hid (∀ w1, LwT w lim g (.slice VA ns.length vc) ns w1 → Calls Tryd.prog 11 #[.agg #[.slice VA ns.length vc, .int .i64 0]] w1 fun en w' => en = .returned (.bool true) ∧ Below w1.heap.size w1 w') := fun w1 h => by
        have := old_is (.slice VA ns.length vc) ⟨ns, 0⟩ w1 h.nd HSm.out
        rw [k2] at this
        exact this
      clear k1 k2 k3 HOk HEr
      go_wp2_with fail
      refine (HSv.out _ HT2.out).mono ?_
      rintro en w4 ⟨rfl, hb4⟩
      have HT4 := Lib.hid (HT2.out.step hb4)
      clear hb4 HT2 b0 b1 l0 l1 l2 l3 l4 HSv
      obtain ⟨b0, b1⟩ := cells2 HT4.out.bx
      obtain ⟨l0, l1, l2, l3, l4⟩ := HT4.out.s.lcells
      go_wp2_with fail
      refine (HVl.out _ HT4.out).mono ?_
      rintro en w5 ⟨rfl, hb5⟩
      have HT5 := Lib.hid (HT4.out.step hb5)
      clear hb5 HT4 b0 b1 l0 l1 l2 l3 l4 HVl
      obtain ⟨b0, b1⟩ := cells2 HT5.out.bx
      go_wp2_with fail
      refine (HIs.out _ HT5.out).mono ?_
      rintro en w6 ⟨rfl, hb6⟩
      have HB := Lib.hid (HT5.out.step hb6).s.bel
      clear hb6 HT5 b0 b1 HIs
      go_wp2_with fail
      go_ret
      exact ⟨rfl, HB.out⟩
    · have hne := HEr.out he
      subst hne
      have te : (e != 0) = true := by simpa using he
      clear HEr HOk HSm
      go_wp2_with fail
      go_ret
      exact ⟨rfl, HT2.out.s.bel⟩
end Go.Proofs.YtdejljgoebcmpaaDoor
/- The law OldfileBack's body. -/
namespace Go.Proofs.YtdejljgoebcmpaaDoor
open Go.RowKit

/-- Both boxes, and a scene's box behind, of these nodes. -/
structure LwB (w : World) (v : Value) (root : Int) (lim : Pl.Lim) (g : Nat) (u : Value) (r2 : Int) (ns : List Pl.Node) (w' : World) : Prop where
  s : SlS w v root lim w'
  bx : w'.heap[g]? = some (.cells #[u, .int .i64 r2] 24 (0, 0))
  nd : RNodes w' u ns
theorem LwB.step {w w1 w2 : World} {v u : Value} {root r2 : Int} {lim : Pl.Lim} {g : Nat} {ns : List Pl.Node} (h : LwB w v root lim g u r2 ns w1) (hb : Below w1.heap.size w1 w2) : LwB w v root lim g u r2 ns w2 :=
  ⟨h.s.step hb, (hb.block _ (Array.getElem?_eq_some_iff.1 h.bx).1).trans h.bx, h.nd.below hb⟩
theorem save_len {s : Pl.Scene} {lim : Pl.Lim} (hs : Pl.Sm s.nodes) (hg : Pl.SmallL s.nodes) (h : (Pl.oldSave s lim).2 = 0) : (Pl.oldSave s lim).1.length ≤ 1048576 ∧ s.root = 0 := by
  have hok := Pl.oldSave_ok h
  have h1 : (Pl.oldValid s lim).1 = 0 := by
    unfold Pl.oldSave at h
    split at h
    · rename_i h1; exact absurd h h1
    · rename_i h1; simpa using h1
  have h2 := Pl.oldValid_iff.1 h1
  have h4 := Pl.oldFile_len hs h2.gr.refs h2.typ hg
  have hl : (Pl.oldLoad (Pl.oldSave s lim).1 lim).2 = 0 := by rw [hok.1]
  have h6 := (Pl.oldLoad_ok hl).2.1
  rw [hok.1] at h6
  refine ⟨?_, ?_⟩
  · unfold Pl.oldSave
    repeat' split
    all_goals first | (simp; done) | exact h4
  · unfold Pl.oldIs at h6
    split at h6
    · cases h6
    · split at h6
      · cases h6
      · rename_i h7; simpa using h7

set_option maxHeartbeats 2000000 in
set_option maxRecDepth 100000 in
theorem law_back (v : Value) (s : Pl.Scene) (lim : Pl.Lim) (w : World) (hT : Lib.Utf8Tabs 0 1 w) (hv : RNodes w v s.nodes) (hs : Pl.Sm s.nodes) :
    Calls Tryd.prog 3 #[.agg #[v, .int .i64 s.root], limV lim] w fun en w' => en = .returned (.bool true) ∧ Below w.heap.size w w' := by
  have HA : Hid (∀ w1, Below w.heap.size w w1 → Calls Tryd.prog 5 #[] w1 fun en w' => en = .returned (.bool true) ∧ Below w1.heap.size w1 w') := fun w1 h => law_awake w1 (tabs_below hT h)
  have HG : Hid (∀ w1, Below w.heap.size w w1 → Calls Tryd.prog 6 #[.agg #[v, .int .i64 s.root]] w1 fun en w' => SomeB (Pl.SmallL s.nodes) en ∧ Below w1.heap.size w1 w') := fun w1 h => r09_great v s.root s.nodes w1 (hv.below h) hs
  have HSv : Hid (∀ w1, Below w.heap.size w w1 → Calls Tryd.prog 7 #[.agg #[v, .int .i64 s.root], limV lim] w1 fun en w' => en = .returned (.tuple #[.string (Pl.str (Pl.oldSave s lim).1), .int .i64 (Pl.oldSave s lim).2]) ∧ Below w1.heap.size w1 w') := fun w1 h =>
    of_save v s lim w1 (tabs_below hT h) (hv.below h) hs
  have HOk : Hid ((Pl.oldSave s lim).2 = 0 → Pl.oldLoad (Pl.oldSave s lim).1 lim = (s, 0) ∧ ((Pl.oldSave s lim).1.length : Int) ≤ lim.b) := fun h => Pl.oldSave_ok h
  have HEr : Hid ((Pl.oldSave s lim).2 ≠ 0 → (Pl.oldSave s lim).1 = []) := fun h => Pl.oldSave_err h
  have HLn : Hid (Pl.SmallL s.nodes → (Pl.oldSave s lim).2 = 0 → (Pl.oldSave s lim).1.length ≤ 1048576 ∧ s.root = 0) := fun hg h => save_len hs hg h
  generalize Pl.oldSave s lim = r at *
  obtain ⟨bs, e⟩ := r
  obtain ⟨ns, root⟩ := s
  simp only at HG HSv HOk HEr HLn hv hs ⊢
  have HV := Lib.hid hv
  have HSm := Lib.hid hs
  obtain ⟨VA, vc, rfl⟩ : ∃ A c, v = .slice A ns.length c := by obtain ⟨A, c, rfl, _⟩ := hv; exact ⟨A, c, rfl⟩
  have HS0 := Lib.hid (SlS.box w (.slice VA ns.length vc) root lim)
  clear hv hs
  simp only [limV] at *
  go_enter Tryd.func3, Tryd.ntmps3
  have hlc : limC lim = #[.int .i64 lim.b, .int .i64 lim.n, .int .i64 lim.e, .int .i64 lim.d, .int .i64 lim.t] := rfl
  rw [hlc] at HS0
  go_upto_region 1 with (fail)
  generalize (w.alloc (.cells #[.slice VA ns.length vc, .int .i64 root] 24)).alloc (.cells #[.int .i64 lim.b, .int .i64 lim.n, .int .i64 lim.e, .int .i64 lim.d, .int .i64 lim.t] 26) = w0 at *
  go_wp2_with fail
  refine (HA.out _ HS0.out.bel).mono ?_
  rintro en w1 ⟨rfl, hb1⟩
  have HS1 := Lib.hid (HS0.out.step hb1)
  clear hb1 HS0
  obtain ⟨a0, a1, l0, l1, l2, l3, l4⟩ := HS1.out.cells
  go_wp2_with fail
  refine (HG.out _ HS1.out.bel).mono ?_
  rintro en w2 ⟨⟨q, rfl, hq⟩, hb2⟩
  have HS2 := Lib.hid (HS1.out.step hb2)
  have HQ := Lib.hid hq
  clear hb2 HS1 a0 a1 l0 l1 l2 l3 l4 HG hq
  cases q
  · have HLn2 := Lib.hid (HLn.out (HQ.out rfl))
    obtain ⟨a0, a1, l0, l1, l2, l3, l4⟩ := HS2.out.cells
    clear HQ HLn
    go_wp2_with fail
    refine (HSv.out _ HS2.out.bel).mono ?_
    rintro en w3 ⟨rfl, hb3⟩
    have HS3 := Lib.hid (HS2.out.step hb3)
    clear hb3 HS2 a0 a1 l0 l1 l2 l3 l4 HSv
    obtain ⟨a0, a1, l0, l1, l2, l3, l4⟩ := HS3.out.cells
    by_cases he : e = 0
    · subst he
      obtain ⟨hok, hbd⟩ := HOk.out rfl
      obtain ⟨hln, hro⟩ := HLn2.out rfl
      have hro2 : root = 0 := hro
      subst hro2
      have HLd : Hid (∀ w1, Below w.heap.size w w1 → Calls Tryd.prog 8 #[.string (Pl.str bs), .agg #[.int .i64 lim.b, .int .i64 lim.n, .int .i64 lim.e, .int .i64 lim.d, .int .i64 lim.t]] w1 fun en w' => (∃ A c, en = .returned (.tuple #[.agg #[.slice A ns.length c, .int .i64 0], .int .i64 0]) ∧ RNodes w' (.slice A ns.length c) ns) ∧ Below w1.heap.size w1 w') := fun w1 h => by
        have := of_load (Pl.str bs) lim w1 (tabs_below hT h) (by rw [str_size']; exact hln)
        rw [str_list, hok] at this
        refine this.mono ?_
        rintro en w' ⟨⟨u, ts, rfl, ho, hn⟩, hb⟩
        have h2 := ho.nodes
        rw [hn] at h2
        obtain ⟨A, c, rfl, h3⟩ := h2
        exact ⟨⟨A, c, rfl, ⟨A, c, rfl, h3⟩⟩, hb⟩
      have hps : (Pl.str bs).size = bs.length := str_size' _
      have tb : decide ((bs.length : Int) ≤ lim.b) = true := decide_eq_true hbd
      have HBd := Lib.hid hbd
      clear hok hbd hln hro HOk HEr HLn2
      go_wp2_with fail
      refine (HLd.out _ HS3.out.bel).mono ?_
      rintro en w4 ⟨⟨UA, uc, rfl, hn⟩, hb4⟩
      have HS4 := Lib.hid (HS3.out.step hb4)
      have HN := Lib.hid hn
      clear hb4 HS3 a0 a1 l0 l1 l2 l3 l4 HLd hn
      have HT2 : Hid (LwB w (.slice VA ns.length vc) 0 lim w4.heap.size (.slice UA ns.length uc) 0 ns (w4.alloc (.cells #[.slice UA ns.length uc, .int .i64 0] 24))) :=
        ⟨HS4.out.step ((Below.refl _ _).alloc (Nat.le_refl _) _), heap_alloc_new _ _, HN.out.below ((Below.refl _ _).alloc (Nat.le_refl _) _)⟩
      clear HS4 HN
      go_upto_region 7 with (fail)
      generalize w4.alloc (.cells #[.slice UA ns.length uc, .int .i64 0] 24) = w5 at *
      generalize w4.heap.size = g at *
      obtain ⟨b0, b1⟩ := cells2 HT2.out.bx
      obtain ⟨a0, a1, l0, l1, l2, l3, l4⟩ := HT2.out.s.cells
      have HSa := Lib.hid (r09_same (.slice UA ns.length uc) (.slice VA ns.length vc) 0 ns w5 HT2.out.nd (HV.out.below HT2.out.s.bel) HSm.out)
      go_wp2_with fail
      refine HSa.out.mono ?_
      rintro en w6 ⟨rfl, hb6⟩
      have HB := Lib.hid (HT2.out.s.step hb6).bel
      clear hb6 HT2 b0 b1 a0 a1 l0 l1 l2 l3 l4 HSa
      go_wp2_with fail
      go_ret
      exact ⟨rfl, HB.out⟩
    · have hne := HEr.out he
      have hne2 : bs = [] := hne
      subst hne2
      have te : (e != 0) = true := by simpa using he
      clear HEr HOk HSm HLn2 hne
      go_wp2_with fail
      go_ret
      exact ⟨ret_bool (by rw [tl_data]; rfl), HS3.out.bel⟩
  · go_wp2_with fail
    refine (HA.out _ HS2.out.bel).mono ?_
    rintro en w3 ⟨rfl, hb3⟩
    have HS3 := Lib.hid (HS2.out.step hb3)
    clear hb3 HS2
    go_wp2_with fail
    go_ret
    exact ⟨rfl, HS3.out.bel⟩
end Go.Proofs.YtdejljgoebcmpaaDoor
