/- Texts of mine, joined: what the functions compute that the law reaches, each under its own conditions, and plain lemmas on it. -/
import Derived.Test.YtdejljgoebcmpaaDoorProg
import Derived.Test.YtdejljgoebcmpaaDoorJOld2
import Derived.Test.YtdejljgoebcmpaaDoorJOld1
import Derived.Laws.Rows
import Derived.Laws.Tables
import Derived.Laws.CopyOwn
import Derived.Deep.RegionWith
import Derived.Lib.Builder
import Derived.Lib.AppendStr
import Derived.Lib.UnsafeStr
import Derived.Lib.Strings
import Derived.Laws.Externs
import Derived.WalkLawsBesides
import Derived.Deep.RegionHeld3
/- old.typed, Typed, Valid, Is. -/
namespace Go.Proofs.YtdejljgoebcmpaaDoor
open Go.RowKit

namespace Pl
/-- The first node that hasn't what its kind has. -/
def typed (sp : Int → Option Spec) : List Node → Nat → Int × Int
  | [], _ => (0, 0)
  | n :: l, i => match sp n.kind with
    | none => (9, i)
    | some s => if fieldErr n.ints n.texts n.kids.length s = 0 then typed sp l (i + 1) else (fieldErr n.ints n.texts n.kids.length s, i)
theorem typed_cons (sp : Int → Option Spec) (n : Node) (l : List Node) (i : Nat) : typed sp (n :: l) i = match sp n.kind with
    | none => (9, (i : Int))
    | some s => if fieldErr n.ints n.texts n.kids.length s = 0 then typed sp l (i + 1) else (fieldErr n.ints n.texts n.kids.length s, i) := rfl
theorem oldSpec_bd (k : Int) : ((oldSpec k).getD noSpec).ints.length ≤ 100 ∧ ((oldSpec k).getD noSpec).texts ≤ 100 ∧ ((oldSpec k).getD noSpec).least ≤ 100 := by
  unfold oldSpec; repeat' split
  all_goals simp [noSpec]
end Pl

set_option maxHeartbeats 4000000 in
set_option maxRecDepth 100000 in
theorem old_typed_m (v : Value) (root : Int) (l : List Pl.Node) (w : World) (hT : Lib.Utf8Tabs 0 1 w) (hv : RNodes w v l) (hs : Pl.Sm l) :
    Calls Tryd.prog 48 #[.agg #[.func (.func 47) #[] #[]], .agg #[v, .int .i64 root]] w fun en w' => en = .returned (.tuple #[.int .i64 (Pl.typed Pl.oldSpec l 0).1, .int .i64 (Pl.typed Pl.oldSpec l 0).2]) ∧ Below w.heap.size w w' := by
  have HV := Lib.hid hv
  have HT := Lib.hid hT
  have HSm := Lib.hid hs
  have hl := hs.len
  have HO : Hid (∀ k w, Calls Tryd.prog 47 #[.int .i64 k] w fun en w' => (∃ v, en = .returned (.tuple #[specV v ((Pl.oldSpec k).getD Pl.noSpec), .bool (Pl.oldSpec k).isSome]) ∧ RNums w' v ((Pl.oldSpec k).getD Pl.noSpec).ints ∧ ∀ j, v.ownBlock = some j → w.heap.size ≤ j) ∧ Below w.heap.size w w') := fun k w => sch_old k w
  obtain ⟨A, c, rfl⟩ : ∃ A c, v = .slice A l.length c := by obtain ⟨A, c, rfl, _⟩ := hv; exact ⟨A, c, rfl⟩
  clear hv hs hT
  go_enter Tryd.func48, Tryd.ntmps48
  go_wp2_with fail
  have hB0 : Below w.heap.size w ((w.alloc (.cells #[.func (.func 47) #[] #[]] 92)).alloc (.cells #[.slice A l.length c, .int .i64 root] 24)) := ((Below.refl _ _).alloc (Nat.le_refl _) _).alloc (by simp) _
  have hV0 : Hid (((w.alloc (.cells #[.func (.func 47) #[] #[]] 92)).alloc (.cells #[.slice A l.length c, .int .i64 root] 24)).heap[w.heap.size]? = some (.cells #[.func (.func 47) #[] #[]] 92 (0, 0))) := (Below.heap_alloc _ _ _ (by simp)).trans (heap_alloc_new w _)
  go_loopw [14] (fun i wr => ∃ k : Nat, k ≤ l.length ∧ i = .int .i64 k ∧ Hid (Pl.typed Pl.oldSpec (l.drop k) k = Pl.typed Pl.oldSpec l 0) ∧ Hid (wr.heap[w.heap.size]? = some (.cells #[.func (.func 47) #[] #[]] 92 (0, 0))) ∧ Hid (Below w.heap.size w wr)) (fun i _ => l.length - (intOf i).toNat)
  case atStart => exact ⟨0, by omega, rfl, rfl, hV0, hB0⟩
  case round =>
    clear hB0 hV0
    obtain ⟨k, hkl, rfl, hO, hV, hB⟩ := hrel
    by_cases hlt : k < l.length
    · obtain ⟨A', c', hve, hcc⟩ := HV.out.below hB.out
      cases hve
      obtain ⟨ad, rfl, hca⟩ := hcc (by omega)
      obtain ⟨vi, vt, vk, h0, h1, h2, h3, hi, ht, hkk⟩ := hca k hlt
      have tl : decide ((k : Int) < l.length) = true := decide_eq_true (by omega)
      have hd := List.drop_eq_getElem_cons hlt
      have hm := List.getElem_mem hlt
      have hb1 := HSm.out.ints _ hm
      have hb2 := HSm.out.texts _ hm
      have hb3 := HSm.out.kids _ hm
      have hb4 := HSm.out.size _ hm
      have hO2 := hO.out
      rw [hd, Pl.typed_cons] at hO2
      clear hca hcc hm hd hO
      generalize l[k] = x at *
      have HI := Lib.hid hi
      have HTx := Lib.hid ht
      have HB4 := Lib.hid hb4
      have HO2 := Lib.hid hO2
      obtain ⟨VA, vc, rfl, _⟩ := hkk
      obtain ⟨TA, tc, rfl, _⟩ := ht
      obtain ⟨IA, ic, rfl, _⟩ := hi
      have hBa : Below wr.heap.size wr (wr.alloc (.cells #[.int .i64 x.kind, .slice IA x.ints.length ic, .slice TA x.texts.length tc, .slice VA x.kids.length vc] 43)) := (Below.refl _ _).alloc (Nat.le_refl _) _
      have v0 : (wr.alloc (.cells #[.int .i64 x.kind, .slice IA x.ints.length ic, .slice TA x.texts.length tc, .slice VA x.kids.length vc] 43)).cell? ⟨w.heap.size, 0, none⟩ = some (.func (.func 47) #[] #[]) := by
        rw [cell_row ((hBa.block _ (Array.getElem?_eq_some_iff.1 hV.out).1).trans hV.out)]; rfl
      have HBa := Lib.hid hBa
      clear hb4 hO2 hBa
      go_wp2_with fail
      refine (HO.out x.kind _).mono ?_
      rintro en w1 ⟨⟨u, rfl, hu, _⟩, hbo⟩
      have hN1 : Hid (w1.heap[wr.heap.size]? = some (.cells #[.int .i64 x.kind, .slice IA x.ints.length ic, .slice TA x.texts.length tc, .slice VA x.kids.length vc] 43 (0, 0))) := (hbo.block _ (by simp)).trans (heap_alloc_new _ _)
      have hBw1 : Hid (Below w.heap.size w w1) := (hB.out.trans (HBa.out.mono hB.out.size)).trans (hbo.mono (by have := hB.out.size; simp; omega))
      have hBr1 : Hid (Below wr.heap.size wr w1) := HBa.out.trans (hbo.mono (by simp))
      have hV1 : Hid (w1.heap[w.heap.size]? = _) := (hBr1.out.block _ (Array.getElem?_eq_some_iff.1 hV.out).1).trans hV.out
      obtain ⟨n0, n1, n2, n3⟩ := cells4 hN1.out
      have hsb := Pl.oldSpec_bd x.kind
      have HU := Lib.hid hu
      obtain ⟨UA, uc, rfl, _⟩ := hu
      clear hbo h0 h1 h2 h3 v0 HBa hV
      cases hsp : Pl.oldSpec x.kind with
      | none =>
        have HR : Hid ((9, (k : Int)) = Pl.typed Pl.oldSpec l 0) := by have := HO2.out; rw [hsp] at this; exact this
        clear HO2 HU hsb hsp
        simp only [specV, Option.getD, Option.isSome, Pl.noSpec]
        go_wp2_with fail
        go_ret2
        exact ⟨ret_gc HR.out.symm, hBw1.out.alloc hBw1.out.size _⟩
      | some s =>
        have HR := HO2.out
        rw [hsp] at HR HU hsb
        simp only [Option.getD] at HR HU hsb
        have HR := Lib.hid HR
        obtain ⟨hs1, hs2, hs3⟩ := hsb
        clear HO2 hsp
        simp only [specV, Option.getD, Option.isSome]
        obtain ⟨si, st, sl, sm⟩ := s
        simp only at hs1 hs2 hs3
        have hBs : Below w1.heap.size w1 (w1.alloc (.cells #[.slice UA si.length uc, .int .i64 st, .int .i64 sl, .int .i64 sm] 115)) := (Below.refl _ _).alloc (Nat.le_refl _) _
        have hBws : Hid (Below w.heap.size w (w1.alloc (.cells #[.slice UA si.length uc, .int .i64 st, .int .i64 sl, .int .i64 sm] 115))) := hBw1.out.trans (hBs.mono hBw1.out.size)
        have HF := Lib.hid (fld_check x.kind (.slice IA x.ints.length ic) (.slice TA x.texts.length tc) VA x.kids.length vc (.slice UA si.length uc) x.ints x.texts ⟨si, st, sl, sm⟩ _ (tabs_below HT.out hBws.out) (HI.out.below (hBr1.out.trans (hBs.mono hBr1.out.size))) (HTx.out.below (hBr1.out.trans (hBs.mono hBr1.out.size))) (HU.out.below hBs) (by omega) (by simp only; omega) (by omega) (fun t ht => by have := HB4.out t ht; omega) hs3 (by omega) hs2)
        have hV2 : Hid ((w1.alloc (.cells #[.slice UA si.length uc, .int .i64 st, .int .i64 sl, .int .i64 sm] 115)).heap[w.heap.size]? = some (.cells #[.func (.func 47) #[] #[]] 92 (0, 0))) := (hBs.block _ (Array.getElem?_eq_some_iff.1 hV1.out).1).trans hV1.out
        obtain ⟨p0, p1, p2, p3⟩ := cells4 ((hBs.block _ (Array.getElem?_eq_some_iff.1 hN1.out).1).trans hN1.out)
        clear hBs hBw1 hBr1 hV1 HU HI HTx n0 n1 n2 n3
        go_wp2_with fail
        refine HF.out.mono ?_
        rintro en w3 ⟨rfl, hb3⟩
        have hB3 : Hid (Below w.heap.size w w3) := hBws.out.trans (hb3.mono hBws.out.size)
        have hV3 : Hid (w3.heap[w.heap.size]? = some (.cells #[.func (.func 47) #[] #[]] 92 (0, 0))) := (hb3.block _ (Array.getElem?_eq_some_iff.1 hV2.out).1).trans hV2.out
        clear hb3 hV2 HF hBws p0 p1 p2 p3 hN1
        generalize Pl.fieldErr x.ints x.texts x.kids.length ⟨si, st, sl, sm⟩ = e at *
        by_cases he : e = 0
        · have HR2 : Hid (Pl.typed Pl.oldSpec (l.drop (k + 1)) (k + 1) = Pl.typed Pl.oldSpec l 0) := by have := HR.out; rw [if_pos he] at this; exact this
          subst he
          clear HR
          go_wp2_with fail
          go_roundw
          case rel => exact ⟨k + 1, by omega, by go_num, HR2, hV3, hB3⟩
          case measure => simp [intOf]; omega
        · have HR2 : Hid ((e, (k : Int)) = Pl.typed Pl.oldSpec l 0) := by have := HR.out; rw [if_neg he] at this; exact this
          have te : (e != 0) = true := by simpa using he
          clear HR
          go_wp2_with fail
          go_ret2
          exact ⟨ret_gc HR2.out.symm, hB3.out⟩
    · obtain rfl : k = l.length := by omega
      have HR : Hid ((0, 0) = Pl.typed Pl.oldSpec l 0) := by have := hO.out; rw [List.drop_length] at this; exact this
      clear hO
      go_wp2_with fail
      go_ret2
      exact ⟨ret_gc HR.out.symm, hB.out⟩

set_option maxRecDepth 100000 in
theorem old_typed (v : Value) (root : Int) (l : List Pl.Node) (w : World) (hT : Lib.Utf8Tabs 0 1 w) (hv : RNodes w v l) (hs : Pl.Sm l) :
    Calls Tryd.prog 25 #[.agg #[v, .int .i64 root]] w fun en w' => en = .returned (.tuple #[.int .i64 (Pl.typed Pl.oldSpec l 0).1, .int .i64 (Pl.typed Pl.oldSpec l 0).2]) ∧ Below w.heap.size w w' := by
  have HS0 := Lib.hid (ScS.box w v root)
  have H1 := Lib.hid (old_typed_m v root l _ (tabs_below hT HS0.out.bel) (hv.below HS0.out.bel) hs)
  obtain ⟨A, c, rfl⟩ : ∃ A c, v = .slice A l.length c := by obtain ⟨A, c, rfl, _⟩ := hv; exact ⟨A, c, rfl⟩
  clear hv hs hT
  go_enter Tryd.func25, Tryd.ntmps25
  go_wp2_with fail
  refine H1.out.mono ?_
  rintro en w1 ⟨rfl, hb1⟩
  have HS1 := Lib.hid (HS0.out.step hb1)
  clear hb1 HS0 H1
  go_wp2_with fail
  go_ret2
  exact ⟨rfl, HS1.out.bel⟩

namespace Pl
/-- What is wrong with a scene of version 1. -/
noncomputable def oldValid (s : Scene) (l : Lim) : Int × Int :=
  if right l = false then (1, -1) else if (typed oldSpec s.nodes 0).1 ≠ 0 then typed oldSpec s.nodes 0 else if (gCheck s.nodes s.root).1 ≠ 0 then gCheck s.nodes s.root
  else if within (measure s.nodes s.root) l = false then (19, -1) else (0, 0)
end Pl
end Go.Proofs.YtdejljgoebcmpaaDoor
/- old.Valid, old.Is. -/
namespace Go.Proofs.YtdejljgoebcmpaaDoor
open Go.RowKit

/-- A scene boxed and limits boxed behind it. -/
structure SlS (w : World) (v : Value) (root : Int) (l : Pl.Lim) (w' : World) : Prop where
  sc : ScS w w.heap.size v root w'
  lr : w'.heap[w.heap.size + 1]? = some (.cells (limC l) 26 (0, 0))
theorem SlS.box (w : World) (v : Value) (root : Int) (l : Pl.Lim) : SlS w v root l ((w.alloc (.cells #[v, .int .i64 root] 24)).alloc (.cells (limC l) 26)) := by
  refine ⟨(ScS.box w v root).step ((Below.refl _ _).alloc (Nat.le_refl _) _), ?_⟩
  have := heap_alloc_new (w.alloc (.cells #[v, .int .i64 root] 24)) (.cells (limC l) 26)
  rwa [show (w.alloc (.cells #[v, .int .i64 root] 24)).heap.size = w.heap.size + 1 from by simp] at this
theorem SlS.step {w w1 w2 : World} {v : Value} {root : Int} {l : Pl.Lim} (h : SlS w v root l w1) (hb : Below w1.heap.size w1 w2) : SlS w v root l w2 := ⟨h.sc.step hb, (hb.block _ (Array.getElem?_eq_some_iff.1 h.lr).1).trans h.lr⟩
theorem SlS.drew {w w1 : World} {v : Value} {root : Int} {l : Pl.Lim} (h : SlS w v root l w1) : SlS w v root l w1.drew := ⟨h.sc.drew, h.lr⟩
theorem SlS.bel {w w1 : World} {v : Value} {root : Int} {l : Pl.Lim} (h : SlS w v root l w1) : Below w.heap.size w w1 := h.sc.bel
theorem SlS.cells {w w1 : World} {v : Value} {root : Int} {l : Pl.Lim} (h : SlS w v root l w1) : w1.cell? ⟨w.heap.size, 0, none⟩ = some v ∧ w1.cell? ⟨w.heap.size, 1, none⟩ = some (.int .i64 root) ∧
    w1.cell? ⟨w.heap.size + 1, 0, none⟩ = some (.int .i64 l.b) ∧ w1.cell? ⟨w.heap.size + 1, 1, none⟩ = some (.int .i64 l.n) ∧ w1.cell? ⟨w.heap.size + 1, 2, none⟩ = some (.int .i64 l.e) ∧ w1.cell? ⟨w.heap.size + 1, 3, none⟩ = some (.int .i64 l.d) ∧ w1.cell? ⟨w.heap.size + 1, 4, none⟩ = some (.int .i64 l.t) := by
  obtain ⟨a, b, c, d, e⟩ := cells5 h.lr
  exact ⟨h.sc.c0, h.sc.c1, a, b, c, d, e⟩

set_option maxHeartbeats 4000000 in
set_option maxRecDepth 100000 in
theorem old_valid (v : Value) (s : Pl.Scene) (l : Pl.Lim) (w : World) (hT : Lib.Utf8Tabs 0 1 w) (hv : RNodes w v s.nodes) (hs : Pl.Sm s.nodes) :
    Calls Tryd.prog 10 #[.agg #[v, .int .i64 s.root], limV l] w fun en w' => en = .returned (.tuple #[.int .i64 (Pl.oldValid s l).1, .int .i64 (Pl.oldValid s l).2]) ∧ Below w.heap.size w w' := by
  obtain ⟨nodes, root⟩ := s
  simp only at hv hs ⊢
  have HS0 := Lib.hid (SlS.box w v root l)
  have HR : Hid (∀ w, Calls Tryd.prog 21 #[limV l] w fun en w' => en = .returned (.bool (Pl.right l)) ∧ Below w.heap.size w w') := fun w => lim_right l w
  have HTy : Hid (∀ w1, Below w.heap.size w w1 → Calls Tryd.prog 25 #[.agg #[v, .int .i64 root]] w1 fun en w' => en = .returned (.tuple #[.int .i64 (Pl.typed Pl.oldSpec nodes 0).1, .int .i64 (Pl.typed Pl.oldSpec nodes 0).2]) ∧ Below w1.heap.size w1 w') := fun w1 hb => old_typed v root nodes w1 (tabs_below hT hb) (hv.below hb) hs
  have HG : Hid (∀ w1, Below w.heap.size w w1 → Calls Tryd.prog 26 #[.agg #[v, .int .i64 root]] w1 fun en w' => en = .returned (.tuple #[.int .i64 (Pl.gCheck nodes root).1, .int .i64 (Pl.gCheck nodes root).2]) ∧ Below w1.heap.size w1 w') := fun w1 hb => gr_check v root nodes w1 (hv.below hb) hs.len hs.kids
  have HM : Hid (∀ w1, Below w.heap.size w w1 → Calls Tryd.prog 28 #[.agg #[v, .int .i64 root]] w1 fun en w' => en = .returned (limV (Pl.measure nodes root)) ∧ Below w1.heap.size w1 w') := fun w1 hb => lim_measure v root nodes w1 (hv.below hb) hs
  have HW : Hid (∀ w1, Calls Tryd.prog 27 #[limV (Pl.measure nodes root), limV l] w1 fun en w' => en = .returned (.bool (Pl.within (Pl.measure nodes root) l)) ∧ Below w1.heap.size w1 w') := fun w1 => lim_within _ _ w1
  have HE : Hid (Pl.oldValid ⟨nodes, root⟩ l = if Pl.right l = false then (1, -1) else if (Pl.typed Pl.oldSpec nodes 0).1 ≠ 0 then Pl.typed Pl.oldSpec nodes 0 else if (Pl.gCheck nodes root).1 ≠ 0 then Pl.gCheck nodes root
    else if Pl.within (Pl.measure nodes root) l = false then (19, -1) else (0, 0)) := rfl
  generalize Pl.right l = qr at *
  generalize Pl.typed Pl.oldSpec nodes 0 = ty at *
  generalize Pl.gCheck nodes root = gc at *
  generalize Pl.within (Pl.measure nodes root) l = qw at *
  generalize Pl.measure nodes root = ms at *
  obtain ⟨t1, t2⟩ := ty
  obtain ⟨g1, g2⟩ := gc
  obtain ⟨A, c, rfl⟩ : ∃ A c, v = .slice A nodes.length c := by obtain ⟨A, c, rfl, _⟩ := hv; exact ⟨A, c, rfl⟩
  clear hv hs hT
  simp only [limV] at *
  go_enter Tryd.func10, Tryd.ntmps10
  go_wp2_with fail
  refine (HR.out _).mono ?_
  rintro en w1 ⟨rfl, hb1⟩
  have HS1 : Hid (SlS w (.slice A nodes.length c) root l w1) := HS0.out.step hb1
  clear hb1 HS0 HR
  cases qr
  · have HV : Hid (Pl.oldValid ⟨nodes, root⟩ l = (1, -1)) := by rw [HE.out, if_pos rfl]; exact rfl
    go_wp2_with fail
    go_ret2
    exact ⟨ret_gc HV.out, HS1.out.bel⟩
  obtain ⟨a0, a1, _⟩ := HS1.out.cells
  go_wp2_with fail
  refine (HTy.out _ HS1.out.bel).mono ?_
  rintro en w2 ⟨rfl, hb2⟩
  have HS2 : Hid (SlS w (.slice A nodes.length c) root l w2) := HS1.out.step hb2
  clear hb2 HS1 HTy a0 a1
  by_cases h1 : t1 = 0
  rotate_left
  · have HV : Hid (Pl.oldValid ⟨nodes, root⟩ l = (t1, t2)) := by rw [HE.out, if_neg (by simp), if_pos h1]; exact rfl
    have te : (t1 != 0) = true := by simpa using h1
    go_wp2_with fail
    go_ret2
    exact ⟨ret_gc HV.out, HS2.out.bel⟩
  subst h1
  obtain ⟨a0, a1, _⟩ := HS2.out.cells
  go_wp2_with fail
  refine (HG.out _ HS2.out.bel).mono ?_
  rintro en w3 ⟨rfl, hb3⟩
  have HS3 : Hid (SlS w (.slice A nodes.length c) root l w3) := HS2.out.step hb3
  clear hb3 HS2 HG a0 a1
  by_cases h2 : g1 = 0
  rotate_left
  · have HV : Hid (Pl.oldValid ⟨nodes, root⟩ l = (g1, g2)) := by rw [HE.out, if_neg (by simp), if_neg (by simp), if_pos h2]; exact rfl
    have te : (g1 != 0) = true := by simpa using h2
    go_wp2_with fail
    go_ret2
    exact ⟨ret_gc HV.out, HS3.out.bel⟩
  subst h2
  go_upto_region 9 with (fail)
  go_cut [35] (fun s35 wx => s35 = .bool (!qw) ∧ Hid (Below w.heap.size w wx))
  case first =>
    have hS : SlS w (.slice A nodes.length c) root l w3.drew := HS3.out.drew
    refine wp_region_vals [(0, some 31), (1, some 32), (2, some 33), (3, some 34), (4, some 35)] rfl (by kernel_rfl) rfl (fun j v _ => (j = 0 → v = .agg #[.slice A nodes.length c, .int .i64 root]) ∧ (j = 1 → v = limV ms) ∧ (j = 2 → v = limV l) ∧ (j = 3 → v = .bool qw) ∧ (j = 4 → v = .bool (!qw))) (SlS w (.slice A nodes.length c) root l) hS ?_ ?_
    · intro L v b w' i o ho hL hd hW hR hE hN
      have hi : i < 5 := (Array.getElem?_eq_some_iff.1 ho).1
      obtain ⟨a0, a1, b0, b1, b2, b3, b4⟩ := hW.cells
      clear HS3 hS
      obtain rfl | rfl | rfl | rfl | rfl : i = 0 ∨ i = 1 ∨ i = 2 ∨ i = 3 ∨ i = 4 := by omega
      · cases ho
        have e2 : b.tmps[2]?.getD undef = .pointer (some ⟨w.heap.size, 0, none⟩) := hN 2 (by decide)
        exact wp_val (.agg #[.slice A nodes.length c, .int .i64 root]) (w1 := w') (by go_simp) ⟨_, rfl, hW, ⟨fun _ => rfl, by omega, by omega, by omega, by omega⟩, hR⟩
      · cases ho
        have l0 : L 0 = true := hd ⟨0, .data⟩ (by simp) rfl
        have e0 : b.tmps[31]?.getD undef = v 0 := hE 0 _ 31 rfl l0 rfl
        rw [(hR 0 l0).1 rfl] at e0
        refine wp_call _ #[.agg #[.slice A nodes.length c, .int .i64 root]] (w1 := w') (by go_simp) ((HM.out _ hW.bel).mono ?_)
        rintro en w5 ⟨rfl, hb⟩
        exact ⟨_, rfl, _, rfl, hW.step hb, ⟨by omega, fun _ => rfl, by omega, by omega, by omega⟩, hR⟩
      · cases ho
        have e3 : b.tmps[3]?.getD undef = .pointer (some ⟨w.heap.size + 1, 0, none⟩) := hN 3 (by decide)
        exact wp_val (limV l) (w1 := w') (by go_simp; rfl) ⟨_, rfl, hW, ⟨by omega, by omega, fun _ => rfl, by omega, by omega⟩, hR⟩
      · cases ho
        have l1 : L 1 = true := hd ⟨1, .data⟩ (by simp) rfl
        have l2 : L 2 = true := hd ⟨2, .data⟩ (by simp) rfl
        have e1 : b.tmps[32]?.getD undef = v 1 := hE 1 _ 32 rfl l1 rfl
        have e2 : b.tmps[33]?.getD undef = v 2 := hE 2 _ 33 rfl l2 rfl
        rw [(hR 1 l1).2.1 rfl] at e1
        rw [(hR 2 l2).2.2.1 rfl] at e2
        refine wp_call _ #[limV ms, limV l] (w1 := w') (by go_simp) ((HW.out _).mono ?_)
        rintro en w5 ⟨rfl, hb⟩
        exact ⟨_, rfl, _, rfl, hW.step hb, ⟨by omega, by omega, by omega, fun _ => rfl, by omega⟩, hR⟩
      · cases ho
        have l3 : L 3 = true := hd ⟨3, .data⟩ (by simp) rfl
        have e3 : b.tmps[34]?.getD undef = v 3 := hE 3 _ 34 rfl l3 rfl
        rw [(hR 3 l3).2.2.2.1 rfl] at e3
        exact wp_val (.bool (!qw)) (w1 := w') (by go_simp) ⟨_, rfl, hW, ⟨by omega, by omega, by omega, by omega, fun _ => rfl⟩, hR⟩
    · intro v w' hW hR
      have v0 := (hR 0 (by decide)).1 rfl
      have v1 := (hR 1 (by decide)).2.1 rfl
      have v2 := (hR 2 (by decide)).2.2.1 rfl
      have v3 := (hR 3 (by decide)).2.2.2.1 rfl
      have v4 := (hR 4 (by decide)).2.2.2.2 rfl
      have hB := Lib.hid hW.bel
      clear hR hW hS HS3
      simp only [putL, Act.put, if_true, v0, v1, v2, v3, v4]
      go_simp
      go_wp2_with fail
      go_meet
      exact ⟨rfl, hB⟩
  case rest =>
    obtain ⟨rfl, hB⟩ := hcut
    cases qw
    · have HV : Hid (Pl.oldValid ⟨nodes, root⟩ l = (19, -1)) := by unfold Hid; rw [HE.out]; simp
      go_wp2_with fail
      go_ret2
      exact ⟨ret_gc HV.out, hB.out⟩
    · have HV : Hid (Pl.oldValid ⟨nodes, root⟩ l = (0, 0)) := by unfold Hid; rw [HE.out]; simp
      go_wp2_with fail
      go_ret2
      exact ⟨ret_gc HV.out, hB.out⟩

namespace Pl
/-- Kids behind. -/
def fwdKids (i : Nat) : List Int → Bool
  | [] => true
  | k :: l => if k ≤ i then false else fwdKids i l
theorem fwdKids_cons (i : Nat) (k : Int) (l : List Int) : fwdKids i (k :: l) = if k ≤ i then false else fwdKids i l := rfl
def fwd : List Node → Nat → Bool
  | [], _ => true
  | n :: l, i => if fwdKids i n.kids then fwd l (i + 1) else false
theorem fwd_cons (n : Node) (l : List Node) (i : Nat) : fwd (n :: l) i = if fwdKids i n.kids then fwd l (i + 1) else false := rfl
/-- Is a scene right, and forward? -/
noncomputable def oldIs (s : Scene) : Bool := if (gCheck s.nodes s.root).1 ≠ 0 then false else if s.root ≠ 0 then false else fwd s.nodes 0
end Pl

set_option maxHeartbeats 4000000 in
set_option maxRecDepth 100000 in
theorem old_is (v : Value) (s : Pl.Scene) (w : World) (hv : RNodes w v s.nodes) (hs : Pl.Sm s.nodes) :
    Calls Tryd.prog 11 #[.agg #[v, .int .i64 s.root]] w fun en w' => en = .returned (.bool (Pl.oldIs s)) ∧ Below w.heap.size w w' := by
  obtain ⟨l, root⟩ := s
  simp only at hv hs ⊢
  have HV := Lib.hid hv
  have HS0 := Lib.hid (ScS.box w v root)
  have hl := hs.len
  have HKd := Lib.hid hs.kids
  have HG : Hid (∀ w1, Below w.heap.size w w1 → Calls Tryd.prog 26 #[.agg #[v, .int .i64 root]] w1 fun en w' => en = .returned (.tuple #[.int .i64 (Pl.gCheck l root).1, .int .i64 (Pl.gCheck l root).2]) ∧ Below w1.heap.size w1 w') := fun w1 hb => gr_check v root l w1 (hv.below hb) hs.len hs.kids
  have HE : Hid (Pl.oldIs ⟨l, root⟩ = if (Pl.gCheck l root).1 ≠ 0 then false else if root ≠ 0 then false else Pl.fwd l 0) := rfl
  generalize Pl.gCheck l root = gc at *
  obtain ⟨g1, g2⟩ := gc
  obtain ⟨A, c, rfl⟩ : ∃ A c, v = .slice A l.length c := by obtain ⟨A, c, rfl, _⟩ := hv; exact ⟨A, c, rfl⟩
  clear hv hs
  go_enter Tryd.func11, Tryd.ntmps11
  go_wp2_with fail
  refine (HG.out _ HS0.out.bel).mono ?_
  rintro en w1 ⟨rfl, hb1⟩
  have HS1 : Hid (ScS w w.heap.size (.slice A l.length c) root w1) := HS0.out.step hb1
  clear hb1 HS0 HG
  by_cases h1 : g1 = 0
  rotate_left
  · have HR : Hid (Pl.oldIs ⟨l, root⟩ = false) := by unfold Hid; rw [HE.out, if_pos h1]
    have te : (g1 != 0) = true := by simpa using h1
    go_wp2_with fail
    go_ret
    exact ⟨ret_bool HR.out.symm, HS1.out.bel⟩
  subst h1
  have d0 := HS1.out.c0
  have d1 := HS1.out.c1
  by_cases h2 : root = 0
  rotate_left
  · have HR : Hid (Pl.oldIs ⟨l, root⟩ = false) := by unfold Hid; rw [HE.out, if_neg (by simp), if_pos h2]
    have te : (root != 0) = true := by simpa using h2
    go_wp2_with fail
    go_ret
    exact ⟨ret_bool HR.out.symm, HS1.out.bel⟩
  subst h2
  have HR : Hid (Pl.oldIs ⟨l, 0⟩ = Pl.fwd l 0) := by unfold Hid; rw [HE.out, if_neg (by simp), if_neg (by simp)]
  clear HE
  go_wp2_with fail
  go_loopw [24] (fun i wr => ∃ k : Nat, k ≤ l.length ∧ i = .int .i64 k ∧ Hid (Pl.fwd (l.drop k) k = Pl.fwd l 0) ∧ Hid (Below w.heap.size w wr)) (fun i _ => l.length - (intOf i).toNat)
  case atStart => exact ⟨0, by omega, rfl, rfl, HS1.out.bel⟩
  case round =>
    clear HS1 d0 d1
    obtain ⟨k, hkl, rfl, hO, hB⟩ := hrel
    by_cases hlt : k < l.length
    · obtain ⟨A', c', hve, hcc⟩ := HV.out.below hB.out
      cases hve
      obtain ⟨ad, rfl, hca⟩ := hcc (by omega)
      obtain ⟨vi, vt, vk, h0, h1, h2, h3, hi, ht, hkk⟩ := hca k hlt
      have tl : decide ((k : Int) < l.length) = true := decide_eq_true (by omega)
      have hd := List.drop_eq_getElem_cons hlt
      have hn := HKd.out _ (List.getElem_mem hlt)
      have hO2 := hO.out
      rw [hd, Pl.fwd_cons] at hO2
      clear hca hcc hd hO
      generalize l[k] = x at *
      have HKK := Lib.hid hkk
      have HO2 := Lib.hid hO2
      obtain ⟨VA, vc, rfl, _⟩ := hkk
      obtain ⟨TA, tc, rfl, _⟩ := ht
      obtain ⟨IA, ic, rfl, _⟩ := hi
      have HN := Lib.hid hn
      have hBa : Below wr.heap.size wr (wr.alloc (.cells #[.int .i64 x.kind, .slice IA x.ints.length ic, .slice TA x.texts.length tc, .slice VA x.kids.length vc] 43)) := (Below.refl _ _).alloc (Nat.le_refl _) _
      have HKa : Hid (RNums (wr.alloc (.cells #[.int .i64 x.kind, .slice IA x.ints.length ic, .slice TA x.texts.length tc, .slice VA x.kids.length vc] 43)) (.slice VA x.kids.length vc) x.kids) := HKK.out.below hBa
      have HBa : Hid (Below w.heap.size w (wr.alloc (.cells #[.int .i64 x.kind, .slice IA x.ints.length ic, .slice TA x.texts.length tc, .slice VA x.kids.length vc] 43))) := hB.out.trans (hBa.mono hB.out.size)
      clear hO2 hn hBa hB HKK
      go_wp2_with fail
      clear h0 h1 h2 h3
      generalize wr.alloc (.cells #[.int .i64 x.kind, .slice IA x.ints.length ic, .slice TA x.texts.length tc, .slice VA x.kids.length vc] 43) = w4 at *
      go_loopw [8, 32] (fun _ j wi => ∃ jn : Nat, jn ≤ x.kids.length ∧ j = .int .i64 jn ∧ Hid (Pl.fwdKids k (x.kids.drop jn) = Pl.fwdKids k x.kids) ∧ w4 = wi) (fun _ j _ => x.kids.length - (intOf j).toNat)
      case atStart => exact ⟨0, by omega, rfl, rfl, rfl⟩
      case round =>
        obtain ⟨jn, hjn, rfl, hF, rfl⟩ := hrel
        by_cases hj : jn < x.kids.length
        · have tj : decide ((jn : Int) < x.kids.length) = true := decide_eq_true (by omega)
          have HJ : Hid (jn < x.kids.length) := hj
          have hjb : jn ≤ 1048576 := by have := HN.out; omega
          obtain ⟨_, _, hve, hkc⟩ := HKa.out
          cases hve
          obtain ⟨kd, rfl, hkc2⟩ := hkc (by omega)
          have e1 := hkc2 jn hj
          have hd := List.drop_eq_getElem_cons hj
          have hF2 := hF.out
          rw [hd, Pl.fwdKids_cons] at hF2
          clear hkc hkc2 hd hF
          generalize x.kids[jn] = kv at *
          clear hj
          by_cases hle : kv ≤ k
          · rw [if_pos hle] at hF2
            have HV2 : Hid (Pl.fwd l 0 = false) := by have := HO2.out; rw [← hF2] at this; unfold Hid; simpa using this.symm
            have te : decide (kv ≤ (k : Int)) = true := decide_eq_true hle
            clear hF2
            go_wp2_with fail
            go_ret
            exact ⟨ret_bool (by rw [HR.out, HV2.out]), HBa.out⟩
          · rw [if_neg hle] at hF2
            have HF2 := Lib.hid hF2
            have te : decide (kv ≤ (k : Int)) = false := decide_eq_false hle
            clear hF2
            go_wp2_with fail
            go_roundw
            case rel => exact ⟨jn + 1, HJ.out, by go_num, HF2, by first | trivial | rfl⟩
            case measure => have := HJ.out; simp [intOf]; omega
        · obtain rfl : jn = x.kids.length := by omega
          have hF2 := hF.out
          rw [List.drop_length] at hF2
          have HV2 : Hid (Pl.fwd (l.drop (k + 1)) (k + 1) = Pl.fwd l 0) := by have := HO2.out; rw [← hF2] at this; unfold Hid; simpa [Pl.fwdKids] using this
          clear hF2 hF
          go_wp2_with fail
          go_roundw
          case rel => exact ⟨k + 1, by omega, by go_num, HV2, HBa⟩
          case measure => simp [intOf]; omega
    · obtain rfl : k = l.length := by omega
      have HV2 : Hid (Pl.fwd l 0 = true) := by have := hO.out; rw [List.drop_length] at this; exact this.symm
      clear hO
      go_wp2_with fail
      go_ret
      exact ⟨ret_bool (by rw [HR.out, HV2.out]), hB.out⟩
end Go.Proofs.YtdejljgoebcmpaaDoor
namespace Go.Proofs.YtdejljgoebcmpaaDoor
open Go.RowKit

theorem ret3 {a b c : Int} {k1 k2 k3 : IntKind} {a' b' c' : Int} (h1 : a = a') (h2 : b = b') (h3 : c = c') : Ending.returned (.tuple #[.int k1 a, .int k2 b, .int k3 c]) = .returned (.tuple #[.int k1 a', .int k2 b', .int k3 c']) := by rw [h1, h2, h3]
def vRet (r : Nat × Nat × Nat) : Ending := .returned (.tuple #[.int .u64 r.1, .int .i64 r.2.1, .int .i64 r.2.2])
theorem vRet_of {x r : Nat × Nat × Nat} (h : r = x) {a b c : Int} (h1 : a = x.1) (h2 : b = x.2.1) (h3 : c = x.2.2) : Ending.returned (.tuple #[.int .u64 a, .int .i64 b, .int .i64 c]) = vRet r := by
  subst h; rw [h1, h2, h3]; rfl
theorem vplace (m c k : Nat) (hk : k ≤ 9) (hm : m < 2 ^ (7 * k)) (hc : c < 256) (h9 : k = 9 → c ≤ 1) :
    bits .or .u64 (m : Int) (IntKind.u64.wrap (IntKind.u64.wrap (bits .and .u8 (c : Int) 127) * 2 ^ (7 * k))) = ((m + c % 128 * 2 ^ (7 * k) : Nat) : Int) := by
  rw [Pl.and127 (by omega) (by omega), Pl.wraps_u64 ((c : Int) % 128) (by omega) (by omega)]
  have hw : IntKind.u64.wrap ((c : Int) % 128 * 2 ^ (7 * k)) = ((c % 128 * 2 ^ (7 * k) : Nat) : Int) := by
    rw [Pl.wraps_u64 _ (by have : (0 : Int) < 2 ^ (7 * k) := Int.pow_pos (by decide); exact Int.mul_nonneg (by omega) (by omega)) ?_]
    · push_cast; rfl
    · rcases Nat.lt_or_ge k 9 with h | h
      · have h1 : c % 128 * 2 ^ (7 * k) < 2 ^ 64 := by
          calc c % 128 * 2 ^ (7 * k) < 128 * 2 ^ (7 * k) := Nat.mul_lt_mul_of_pos_right (by omega) (Nat.two_pow_pos _)
            _ = 2 ^ (7 * k + 7) := by rw [Nat.pow_add, Nat.mul_comm]
            _ ≤ 2 ^ 64 := Nat.pow_le_pow_right (by decide) (by omega)
        exact_mod_cast h1
      · obtain rfl : k = 9 := by omega
        have := h9 rfl
        omega
  rw [hw, Pl.or_place m (c % 128) k hk hm (by omega) (fun h => by have := h9 h; omega)]

theorem vplace9 (m c : Nat) (hm : m < 2 ^ 63) (h9 : c ≤ 1) :
    bits .or .u64 (m : Int) (IntKind.u64.wrap (IntKind.u64.wrap (bits .and .u8 (c : Int) 127) * 9223372036854775808)) = ((m + c % 128 * 2 ^ (7 * 9) : Nat) : Int) :=
  vplace m c 9 (by omega) hm (by omega) (fun _ => h9)
theorem vplace0 (m c k : Nat) (hk : k ≤ 9) (hm : m < 2 ^ (7 * k)) (h0 : c = 0) :
    bits .or .u64 (m : Int) (IntKind.u64.wrap (IntKind.u64.wrap (bits .and .u8 0 127) * 2 ^ (7 * k))) = ((m + c % 128 * 2 ^ (7 * k) : Nat) : Int) := by
  subst h0; exact vplace m 0 k hk hm (by omega) (fun _ => by omega)
theorem vgrow (m c k : Nat) (hm : m < 2 ^ (7 * k)) : m + c % 128 * 2 ^ (7 * k) < 2 ^ (7 * (k + 1)) := by
  have h : c % 128 < 128 := by omega
  have : (c % 128 + 1) * 2 ^ (7 * k) ≤ 128 * 2 ^ (7 * k) := Nat.mul_le_mul_right _ (by omega)
  rw [show 7 * (k + 1) = 7 * k + 7 from by omega, Nat.pow_add]
  rw [Nat.add_mul] at this
  omega

set_option maxRecDepth 100000 in
theorem vget_any (b : ByteArray) (p : Nat) (w : World) (h1 : p ≤ b.size) (hb : b.size ≤ 140737488355328) :
    Calls Tryd.prog 76 #[.string b, .int .i64 p] w fun en w' => en = vRet (Pl.vGet b.data.toList p) ∧ w = w' := by
  have e1 : decide ((p : Int) < 0) = false := decide_eq_false (by omega)
  have e2 : decide (b.size < p) = false := decide_eq_false (by omega)
  have e3 : decide ((b.size : Int) < p) = false := decide_eq_false (by omega)
  go_enter Tryd.func76, Tryd.ntmps76
  go_wp2
  go_loop [7, 8] (fun n i => ∃ k m : Nat, k ≤ 9 ∧ p + k ≤ b.size ∧ m < 2 ^ (7 * k) ∧ i = .int .i64 k ∧ n = .int .u64 m ∧ Hid (Pl.vGo (b.data.toList.drop p) 0 0 = Pl.vGo (b.data.toList.drop (p + k)) k m)) (fun _ i => b.size - (intOf i).toNat)
  case atStart => exact ⟨0, 0, by omega, by omega, by omega, rfl, rfl, rfl⟩
  case round =>
    obtain ⟨k, m, hk, hpk, hm, rfl, rfl, hg⟩ := hrel
    by_cases hlt : p + k < b.size
    · have HS := Lib.hid (Pl.vGo_step b (p + k) k m hlt)
      have hc : b[p + k].toNat < 256 := UInt8.toNat_lt _
      go_wp2
      all_goals first
        | (go_ret3; exact ⟨vRet_of (x := (0, 0, 3)) (Pl.vGet_err (by rw [hg.out, HS.out, if_pos (by omega)])) rfl rfl rfl, rfl⟩)
        | (go_ret3; refine ⟨vRet_of (x := (m + b[p + k].toNat % 128 * 2 ^ (7 * k), p + (k + 1), 0)) (Pl.vGet_ok (by rw [hg.out, HS.out, if_neg (by omega), if_pos (by omega)])) ?_ (by simp only; omega) rfl, rfl⟩; first | with_reducible exact vplace _ _ _ hk hm hc (by omega) | with_reducible exact vplace0 _ _ _ hk hm (by omega) | (obtain rfl : k = 9 := (by omega); exact vplace9 _ _ hm (by omega)))
        | (go_round
           case rel => exact ⟨k + 1, _, by omega, by omega, vgrow m b[p + k].toNat k hm, by go_num, by rw [vplace _ _ _ hk hm hc (by omega)], by unfold Hid; rw [hg.out, HS.out, if_neg (by omega), if_neg (by omega)]; rfl⟩
           case measure => simp [intOf]; omega)
    · go_wp2
      go_ret3
      exact ⟨vRet_of (x := (0, 0, 2)) (Pl.vGet_err (by rw [hg.out, Pl.vGo_end b _ _ _ (by omega)])) rfl rfl rfl, rfl⟩
theorem info5 : (Tryd.prog.info? 5).map (fun i => (i.zero, i.size, i.bytes)) = some (some (.int .u8 0), 1, 1) := by kernel_rfl

theorem own_k {w1 : World} {B e : Nat} {v' : Value} (l : Pl.Bytes) (k : Nat) (h : k < 128) (ho : w1.ownsRow B e 1 v' (l.length + 1) (u8s l ++ [.int .u8 k])) : w1.ownsRow B e 1 v' (l.length + 1) (u8s (l ++ [UInt8.ofNat k])) := by
  have hk8 : (UInt8.ofNat k).toNat = k := by simp; omega
  rw [u8s_snoc, hk8]; exact ho
set_option maxRecDepth 100000 in
theorem vput_any (n : Nat) (w : World) (hn : n < 18446744073709551616) :
    Calls Tryd.prog 17 #[.int .u64 n] w fun en w' => en = .returned (.string (Pl.str (Pl.vPut n))) ∧ Below w.heap.size w w' := by
  go_enter Tryd.func17, Tryd.ntmps17
  go_wp2
  go_loopw [0, 3] (fun x v wr => ∃ (k : Nat) (l : Pl.Bytes), x = .int .u64 k ∧ k < 18446744073709551616 ∧ wr.ownsRow w.heap.size 5 1 v l.length (u8s l) ∧ Below w.heap.size w wr ∧ l.length ≤ 64 ∧ k * 2 ^ l.length ≤ n ∧ Hid (Pl.vPut n = l ++ Pl.vPut k)) (fun x _ _ => (intOf x).toNat)
  case atStart => exact ⟨n, [], rfl, hn, own_none _ _ _ _, Below.refl _ _, by simp, by simp, rfl⟩
  case round =>
    obtain ⟨k, l, rfl, hk, hown, hbel, hl, hkn, hg⟩ := hrel
    by_cases hlt : k < 128
    · have he : Hid (Pl.str (Pl.vPut n) = ⟨(l ++ [UInt8.ofNat k]).toArray⟩) := by unfold Hid; rw [hg.out]; unfold Pl.vPut; rw [if_pos hlt]; rfl
      go_wp2_with (at_builtin; refine app_new (.tmp 14) (.tmp 17) 53 5 (.int .u8 0) 1 1 Tryd.underlying53 info5 rfl (by decide) rfl rfl rfl hown hbel.size [.int .u8 k] 1 rfl rfl ?c2 ?c3 (by decide) ?_; (case c2 => simp [Value.oneCell']); (case c3 => omega); intro v' w1 hown' hupd; have hown2 := own_k l k hlt hown'; have hcv := own_conv (P := Tryd.prog) Tryd.underlying53 Tryd.underlying5 Tryd.underlying9 hown2; have hbel1 := Upd.below hbel hupd hbel.size (own_ge hown); clear hown' hupd)
      go_ret
      exact ⟨ret_str he.out.symm, hbel1⟩
    · have hp : 128 * (k / 128) ≤ k := Nat.mul_div_le k 128
      have hl63 : l.length + 7 ≤ 64 := by
        have h0 : 2 ^ 7 * 2 ^ l.length ≤ k * 2 ^ l.length := Nat.mul_le_mul_right _ (by omega)
        rw [← Nat.pow_add] at h0
        have h1 : 2 ^ (7 + l.length) < 2 ^ 64 := by omega
        have := (Nat.pow_lt_pow_iff_right (by decide)).1 h1
        omega
      have h2 : k / 128 * 2 ^ (l.length + 1) ≤ n := by
        rw [Nat.pow_succ]
        have : k / 128 * (2 ^ l.length * 2) ≤ k * 2 ^ l.length := by
          rw [← Nat.mul_assoc, Nat.mul_right_comm]
          exact Nat.mul_le_mul_right _ (by omega)
        omega
      have HE : Hid (Pl.vPut n = (l ++ [UInt8.ofNat (128 + k % 128)]) ++ Pl.vPut (k / 128)) := by
        unfold Hid; rw [hg.out]
        conv => lhs; rw [Pl.vPut]
        rw [if_neg hlt]; simp
      have HV : Hid (u8s l ++ [.int .u8 (bits .or .u8 ((k : Int) % 256) 128)] = u8s (l ++ [UInt8.ofNat (128 + k % 128)])) := by
        unfold Hid
        rw [u8s_snoc, Pl.or128 (by omega) (by omega)]
        have : (UInt8.ofNat (128 + k % 128)).toNat = 128 + k % 128 := by simp; omega
        rw [this]
        congr 4
        omega
      go_wp2_with (at_builtin; refine app_new (.tmp 6) (.tmp 10) 53 5 (.int .u8 0) 1 1 Tryd.underlying53 info5 rfl (by decide) rfl rfl rfl hown hbel.size [.int .u8 (bits .or .u8 ((k : Int) % 256) 128)] 1 rfl rfl ?c2 ?c3 (by decide) ?_; (case c2 => simp [Value.oneCell']); (case c3 => omega); intro v' w1 hown' hupd)
      have hbel1 := Upd.below hbel hupd hbel.size (own_ge hown)
      rw [HV.out] at hown'
      go_roundw
      case rel => exact ⟨k / 128, _, by go_num, by omega, by rw [List.length_append]; exact hown', hbel1, by simp; omega, by rw [List.length_append]; exact h2, HE⟩
      case measure => simp [intOf]; omega

set_option maxRecDepth 100000 in
theorem zig_any (n : Int) (w : World) (h0 : -9223372036854775808 ≤ n) (h1 : n ≤ 9223372036854775807) :
    Calls Tryd.prog 33 #[.int .i64 n] w fun en w' => en = .returned (.int .u64 (Pl.zig n)) ∧ w = w' := by
  have hz := Lib.hid (Pl.zig_bits n h0 h1)
  go_enter Tryd.func33, Tryd.ntmps33
  go_wp2
  go_ret
  exact ⟨ret_int hz.out, rfl⟩

set_option maxRecDepth 100000 in
theorem zag_any (n : Nat) (w : World) (h1 : n < 18446744073709551616) :
    Calls Tryd.prog 77 #[.int .u64 n] w fun en w' => en = .returned (.int .i64 (Pl.zag n)) ∧ w = w' := by
  have hz0 := Pl.zag_bits n h1
  rw [IntWalk.i64_left, IntWalk.i64_left] at hz0
  have hz := Lib.hid hz0
  clear hz0
  go_enter Tryd.func77, Tryd.ntmps77
  go_wp2
  go_ret
  exact ⟨ret_int hz.out, rfl⟩
end Go.Proofs.YtdejljgoebcmpaaDoor
/- crc. -/
namespace Go.Proofs.YtdejljgoebcmpaaDoor
open Go.RowKit

def tabL (i : Nat) : List Value := (List.range 256).map fun j => .int .u32 (if j < i then Pl.crcTab j else 0 : Nat)
def tabC (i : Nat) : Array Value := (tabL i).toArray
theorem tabC_size (i : Nat) : (tabC i).size = 256 := by simp [tabC, tabL]
theorem tabC_get (i j : Nat) (h : j < 256) : (tabC i)[j]? = some (.int .u32 (if j < i then Pl.crcTab j else 0 : Nat)) := by
  simp [tabC, tabL, h]
theorem tabC_set (i : Nat) (h : i < 256) : (tabC i).setIfInBounds i (.int .u32 (Pl.crcTab i)) = tabC (i + 1) := by
  apply Array.ext_getElem?
  intro j
  rw [Array.getElem?_setIfInBounds]
  by_cases hj : j < 256
  · rw [tabC_get _ _ hj, tabC_get _ _ hj]
    by_cases e : i = j
    · subst e; rw [if_pos rfl, if_pos (by rw [tabC_size]; exact h), if_pos (by omega)]
    · rw [if_neg e]; congr 3; by_cases h1 : j < i
      · rw [if_pos h1, if_pos (by omega)]
      · rw [if_neg h1, if_neg (by omega)]
  · rw [if_neg (by omega), Array.getElem?_eq_none (by rw [tabC_size]; omega), Array.getElem?_eq_none (by rw [tabC_size]; omega)]
theorem tabC_zero : Tryd.zeroCells130 = tabC 0 := by kernel_rfl
theorem tab_size (i : Nat) : (Tryd.prog.info? 130).map (·.size) = some (tabC i).size := by rw [tabC_size]; kernel_rfl
theorem tab_one (i : Nat) : (tabC i).all (·.oneCell') = true := by
  rw [Array.all_eq_true_iff_forall_mem]; intro x hx; simp [tabC, tabL] at hx; obtain ⟨j, _, rfl⟩ := hx; rfl

set_option maxHeartbeats 400000 in
set_option maxRecDepth 100000 in
theorem crc_table (w : World) :
    Calls Tryd.prog 84 #[] w fun en w' => en = .returned (.agg (tabC 256)) ∧ Below w.heap.size w w' := by
  have hz := Lib.hid tabC_zero
  go_enter Tryd.func84, Tryd.ntmps84
  go_wp2_with fail
  rw [hz.out]
  have hb0 : Below w.heap.size w ((w.alloc (.cells (tabC 0) 130)).alloc (.cells (tabC 0) 130)) := ((Below.refl _ _).alloc (Nat.le_refl _) _).alloc (by simp) _
  have hh0 := heap_alloc2_old w (.cells (tabC 0) 130) (.cells (tabC 0) 130)
  have hh1 := heap_alloc2_new w (.cells (tabC 0) 130) (.cells (tabC 0) 130)
  generalize (w.alloc (.cells (tabC 0) 130)).alloc (.cells (tabC 0) 130) = w0 at *
  have HH0 := Lib.hid hh0
  have HH1 := Lib.hid hh1
  clear hh0 hh1
  go_loopw [4] (fun i wr => ∃ k : Nat, k ≤ 256 ∧ i = .int .i64 k ∧ Hid (wr.heap[w.heap.size + 1]? = some (.cells (tabC k) 130 (0, 0))) ∧ Hid (wr.heap[w.heap.size]? = some (.cells (tabC 0) 130 (0, 0))) ∧ Below w.heap.size w wr) (fun i _ => 256 - (intOf i).toNat)
  case atStart => exact ⟨0, by omega, rfl, HH1, HH0, hb0⟩
  case round =>
    clear HH0 HH1 hb0
    obtain ⟨k, hk, rfl, hh1, hh0, hb⟩ := hrel
    obtain ⟨wo, rfl⟩ : ∃ wo : World, wo = wr := ⟨_, rfl⟩
    by_cases hlt : k < 256
    · have hc : wo.cell? ⟨w.heap.size + 1, k, none⟩ = some (.int .u32 0) := by rw [cell_of_row _ _ _ _ _ _ hh1.out, tabC_get _ _ hlt, if_neg (by omega)]; rfl
      have hf : wo.frozen? ⟨w.heap.size + 1, k, none⟩ = false := frozen_of_row _ _ _ _ _ hh1.out
      go_wp2_with fail
      go_loop [3, 9] (fun x j => ∃ m y : Nat, m ≤ 8 ∧ y < 4294967296 ∧ j = .int .i64 m ∧ x = .int .u32 y ∧ Hid (Pl.crcTab k = Pl.crcBits (8 - m) y)) (fun _ j => 8 - (intOf j).toNat)
      case atStart => exact ⟨0, k, by omega, by omega, rfl, rfl, rfl⟩
      case round =>
        obtain ⟨m, y, hm, hy, rfl, rfl, hg⟩ := hrel
        by_cases hm8 : m < 8
        · have hp : (bits .and .u32 (y : Int) 1) = ((y % 2 : Nat) : Int) := by rw [Pl.and1_u32 (by omega) (by omega)]; omega
          have hx : bits .xor .u32 ((y : Int) / 2) 3988292384 = ((y / 2 ^^^ Pl.poly : Nat) : Int) := Pl.xor_u32 (y / 2) Pl.poly (by omega) (by decide)
          have HX := Lib.hid hx
          have hs : Pl.crcBits (8 - m) y = Pl.crcBits (8 - (m + 1)) (Pl.crcBit y) := by rw [show 8 - m = (8 - (m + 1)) + 1 from by omega]; rfl
          have HS := Lib.hid hs
          have hy2 := Pl.crcBit_lt (x := y) (by omega)
          have HB : Hid (Pl.crcBit y = if y % 2 = 1 then y / 2 ^^^ Pl.poly else y / 2) := rfl
          clear hx hs
          by_cases h2 : y % 2 = 1
          · have ht : ((bits .and .u32 (y : Int) 1) == 1) = true := by rw [hp, h2]; rfl
            have HE : Hid (Pl.crcBit y = y / 2 ^^^ Pl.poly) := by unfold Hid; rw [HB.out, if_pos h2]
            clear hp h2
            go_wp2
            go_round
            case rel => exact ⟨m + 1, Pl.crcBit y, by omega, by omega, by go_num, by rw [HX.out, HE.out], by unfold Hid; rw [hg.out, HS.out]⟩
            case measure => simp [intOf]; omega
          · have ht : ((bits .and .u32 (y : Int) 1) == 1) = false := by rw [hp, show y % 2 = 0 from by omega]; rfl
            have HE : Hid (Pl.crcBit y = y / 2) := by unfold Hid; rw [HB.out, if_neg h2]
            clear hp h2
            go_wp2
            go_round
            case rel => exact ⟨m + 1, Pl.crcBit y, by omega, by omega, by go_num, by rw [HE.out]; go_num, by unfold Hid; rw [hg.out, HS.out]⟩
            case measure => simp [intOf]; omega
        · obtain rfl : m = 8 := by omega
          have HG : Hid (Pl.crcTab k = y) := hg
          clear hg
          go_wp2
          go_roundw
          case rel => exact ⟨k + 1, by omega, by go_num, by unfold Hid; rw [heap_setCell_same _ _ _ _ _ _ hh1.out, ← HG.out, tabC_set _ hlt], by unfold Hid; rw [heap_setCell_other _ _ _ _ (by simp)]; exact hh0.out, hb.setCell (by simp) _⟩
          case measure => simp [intOf]; omega
    · obtain rfl : k = 256 := by omega
      go_wp2_with (first | (refine wpList_load_row rfl 130 (.tmp 1) rfl (w.heap.size + 1) rfl 130 (tabC 256) (0, 0) _ hh1.out Tryd.underlying130 rfl (tab_size _) ?_) | (refine wpList_store_row rfl 130 (.tmp 0) (.tmp 24) rfl w.heap.size (tabC 256) rfl rfl 130 (tabC 0) hh0.out (tab_size _) (by rw [tabC_size, tabC_size]) (tab_one _) ?_))
      have h1 := setRow_heap wo w.heap.size (tabC 0) (tabC 256) 130 (0, 0) hh0.out
      exact bodyPost_ret (v := .agg (tabC 256)) (results_cell_row rfl _ _ w.heap.size 130 (tabC 256) (0, 0) _ rfl h1 Tryd.underlying130 rfl (tab_size _)) rfl ⟨rfl, below_setRow hb (Nat.le_refl _) _⟩

set_option maxRecDepth 100000 in
theorem crc_steps (w : World) :
    Calls Tryd.prog 74 #[] w fun en w' => en = .returned (.agg (tabC 256)) ∧ Below w.heap.size w w' := by
  have hz := Lib.hid tabC_zero
  go_enter Tryd.func74, Tryd.ntmps74
  go_wp2_with fail
  rw [hz.out]
  have hb0 : Below w.heap.size w (w.alloc (.cells (tabC 0) 130)) := (Below.refl _ _).alloc (Nat.le_refl _) _
  have hh0 := heap_alloc_new w (.cells (tabC 0) 130)
  have hsz : w.heap.size < (w.alloc (.cells (tabC 0) 130)).heap.size := by simp
  generalize w.alloc (.cells (tabC 0) 130) = w0 at *
  have HH0 := Lib.hid hh0
  clear hh0
  refine (crc_table w0).mono ?_
  rintro en w1 ⟨rfl, hb1⟩
  have HH1 : Hid (w1.heap[w.heap.size]? = some (.cells (tabC 0) 130 (0, 0))) := (hb1.block _ hsz).trans HH0.out
  have hb2 : Below w.heap.size w w1 := hb0.trans (hb1.mono (by omega))
  clear hb0 hb1 HH0
  go_wp2_with (refine wpList_store_row rfl 130 (.tmp 0) (.tmp 1) rfl w.heap.size (tabC 256) rfl rfl 130 (tabC 0) HH1.out (tab_size _) (by rw [tabC_size, tabC_size]) (tab_one _) ?_)
  have h1 := setRow_heap w1 w.heap.size (tabC 0) (tabC 256) 130 (0, 0) HH1.out
  exact bodyPost_ret (v := .agg (tabC 256)) (results_cell_row rfl _ _ w.heap.size 130 (tabC 256) (0, 0) _ rfl h1 Tryd.underlying130 rfl (tab_size _)) rfl ⟨rfl, below_setRow hb2 (Nat.le_refl _) _⟩

/-- What a byte's round reckons. -/
theorem crc_ix (x c : Nat) (hx : x < 4294967296) (hc : c < 256) :
    (∀ w, (Instr.index 130 (.agg (tabC 256)) (.int .u8 (bits .xor .u8 (IntKind.u8.wrap (x : Int)) (c : Int)))).run Tryd.prog w = .ok (.int .u32 (Pl.crcTab (x % 256 ^^^ c))) w) ∧
    bits .xor .u32 ((x : Int) / 256) (Pl.crcTab (x % 256 ^^^ c) : Nat) = (Pl.crcStep x c : Nat) := by
  have h1 : x % 256 ^^^ c < 2 ^ 8 := Nat.xor_lt_two_pow (by omega) (by omega)
  have h2 : bits .xor .u8 (IntKind.u8.wrap (x : Int)) (c : Int) = ((x % 256 ^^^ c : Nat) : Int) := by
    rw [IntKind.wrap_u8]; exact Pl.xor_u8 (x % 256) c (by omega) (by omega)
  refine ⟨fun w => ?_, ?_⟩
  · rw [h2]
    exact run_index_arr w _ 73 256 (tabC 256) .u8 _ _ Tryd.underlying130 Tryd.underlying73 rfl (by kernel_rfl) (by omega) _ (by rw [tabC_get _ _ (by omega), if_pos (by omega)])
  · exact Pl.xor_u32 (x / 256) _ (by omega) (Pl.crcBits_lt (by omega))
theorem crcGo_snoc (x : Nat) (l : Pl.Bytes) (c : UInt8) : Pl.crcGo x (l ++ [c]) = Pl.crcStep (Pl.crcGo x l) c.toNat := by simp [Pl.crcGo]
set_option maxHeartbeats 400000 in
set_option maxRecDepth 100000 in
theorem crc_more (s : Nat) (b : ByteArray) (w : World) (hs : s < 4294967296) (hb : b.size ≤ 140737488355328) :
    Calls Tryd.prog 58 #[.int .u32 s, .string b] w fun en w' => en = .returned (.int .u32 (4294967295 - Pl.crcGo (4294967295 - s) b.data.toList : Nat)) ∧ Below w.heap.size w w' := by
  have hsg : IntKind.u32.signed = false := rfl
  go_enter Tryd.func58, Tryd.ntmps58
  have hn0 := Pl.not_u32 s (by omega)
  have hn := Lib.hid hn0
  clear hn0
  go_wp2
  rw [hn.out]
  go_loopw [5, 6] (fun x i wr => ∃ k : Nat, k ≤ b.size ∧ i = .int .i64 k ∧ x = .int .u32 (Pl.crcGo (4294967295 - s) (b.data.toList.take k)) ∧ Below w.heap.size w wr) (fun _ i _ => b.size - (intOf i).toNat)
  case atStart => exact ⟨0, by omega, rfl, rfl, Below.refl _ _⟩
  case round =>
    obtain ⟨k, hk, rfl, rfl, hbl⟩ := hrel
    have hx : Pl.crcGo (4294967295 - s) (b.data.toList.take k) < 4294967296 := Pl.crcGo_lt (by omega) _
    by_cases hlt : k < b.size
    · have HT : Hid (Pl.crcGo (4294967295 - s) (b.data.toList.take (k + 1)) = Pl.crcStep (Pl.crcGo (4294967295 - s) (b.data.toList.take k)) b[k].toNat) := by
        unfold Hid; rw [Pl.take_snoc _ _ (by simpa using hlt), crcGo_snoc]; rfl
      have hc : b[k].toNat < 256 := UInt8.toNat_lt _
      have HF := crc_ix
      generalize Pl.crcGo (4294967295 - s) (b.data.toList.take k) = x at *
      have HI := Lib.hid (HF x b[k].toNat hx hc)
      have hi := HI.out.1
      clear HF
      go_wp2
      go_region_with ((go_at_call 74; refine (crc_steps _).mono ?_; rintro en w1 ⟨rfl, hb1⟩))
      all_goals
        go_wp2
        go_roundw
        case rel => exact ⟨k + 1, by omega, by go_num, by rw [HI.out.2, HT.out], hbl.drew.trans (hb1.mono hbl.size)⟩
        case measure => simp [intOf]; omega
    · have HT : Hid (Pl.crcGo (4294967295 - s) (b.data.toList.take k) = Pl.crcGo (4294967295 - s) b.data.toList) := by
        unfold Hid; rw [List.take_of_length_le (by simp; omega)]
      have HN := Lib.hid (Pl.not_u32 _ hx)
      clear hx
      generalize Pl.crcGo (4294967295 - s) (b.data.toList.take k) = x at *
      go_wp2
      go_ret
      exact ⟨ret_int (by rw [HN.out, HT.out]), hbl⟩

set_option maxRecDepth 100000 in
theorem crc_sum (b : ByteArray) (w : World) (hb : b.size ≤ 140737488355328) :
    Calls Tryd.prog 36 #[.string b] w fun en w' => en = .returned (.int .u32 (Pl.crc b.data.toList)) ∧ Below w.heap.size w w' := by
  have h := Lib.hid (crc_more 0 b w (by omega) hb)
  go_enter Tryd.func36, Tryd.ntmps36
  go_wp2_with fail
  refine h.out.mono ?_
  rintro en w1 ⟨rfl, hb1⟩
  go_wp2
  go_ret
  exact ⟨rfl, hb1⟩

set_option maxRecDepth 100000 in
theorem crc_put (s : Nat) (w : World) (hs : s < 4294967296) :
    Calls Tryd.prog 35 #[.int .u32 s] w fun en w' => en = .returned (.string (Pl.str (Pl.crcPut s))) ∧ Below w.heap.size w w' := by
  have hcv := new_conv (P := Tryd.prog) w 5 Tryd.underlying53 Tryd.underlying5 Tryd.underlying9 (Pl.crcPut s) #[.int .u8 ((s : Int) % 256), .int .u8 ((s : Int) / 256 % 256), .int .u8 ((s : Int) / 65536 % 256), .int .u8 ((s : Int) / 16777216)] (by simp [u8s, Pl.crcPut]; omega) 4 rfl
  go_enter Tryd.func35, Tryd.ntmps35
  go_wp2
  go_ret
  exact ⟨rfl, (Below.refl _ _).alloc (Nat.le_refl _) _⟩

set_option maxRecDepth 100000 in
theorem crc_get_no (b : ByteArray) (w : World) (hb : b.size ≠ 4) :
    Calls Tryd.prog 61 #[.string b] w fun en w' => en = .returned (.tuple #[.int .u32 0, .bool false]) ∧ w = w' := by
  have h1 : ((b.size : Int) != 4) = true := by rw [bne_iff_ne]; omega
  have h2 : (b.size != 4) = true := by rw [bne_iff_ne]; omega
  go_enter Tryd.func61, Tryd.ntmps61
  go_wp2
  go_ret2
  exact ⟨rfl, rfl⟩
set_option maxRecDepth 100000 in
theorem crc_get (b : ByteArray) (w : World) (hb : b.size = 4) :
    Calls Tryd.prog 61 #[.string b] w fun en w' => en = .returned (.tuple #[.int .u32 (Pl.crcGet b.data.toList), .bool true]) ∧ ∃ n, w' = w.drewN n := by
  have h1 : ((b.size : Int) != 4) = false := by rw [bne_eq_false_iff_eq]; omega
  have h2 : (b.size != 4) = false := by rw [bne_eq_false_iff_eq]; omega
  go_enter Tryd.func61, Tryd.ntmps61
  go_wp2
  go_quiet (fail)
  go_wp2
  go_ret2
  refine ⟨ret_ib ?_, _, rfl⟩
  rw [Pl.crcGet_bits _ _ _ _ (UInt8.toNat_lt _) (UInt8.toNat_lt _) (UInt8.toNat_lt _) (UInt8.toNat_lt _)]
  unfold Pl.crcGet
  have hl : b.data.toList.length = 4 := by simpa using hb
  have g : ∀ i (h : i < b.size), b.data.toList.getD i 0 = b[i] := fun i h => by simp [List.getD_eq_getElem?_getD, List.getElem?_eq_getElem (show i < b.data.toList.length by omega)]; rfl
  rw [g 0 (by omega), g 1 (by omega), g 2 (by omega), g 3 (by omega)]
theorem crc_sum_str (l : Pl.Bytes) (w : World) (hb : l.length ≤ 140737488355328) :
    Calls Tryd.prog 36 #[.string (Pl.str l)] w fun en w' => en = .returned (.int .u32 (Pl.crc l)) ∧ Below w.heap.size w w' :=
  crc_sum (Pl.str l) w (by simpa [Pl.str, ByteArray.size] using hb)
end Go.Proofs.YtdejljgoebcmpaaDoor
/- strings.Builder, strings.CutPrefix. -/
namespace Go.Proofs.YtdejljgoebcmpaaDoor
open Go.RowKit

/-- Block b is a Builder that holds l (made from block B on); blocks of E are none of its own. -/
def Bld (E : Nat → Prop) (B b : Nat) (l : Pl.Bytes) (w : World) : Prop :=
  Lib.IsBuilder 55 5 B b (u8s l) w ∧ ∀ k, E k → k < w.heap.size ∧ k ≠ b ∧ notRow 5 w k
abbrev BldU (E : Nat → Prop) (B : Nat) (w w' : World) : Prop := Upd (fun k => B ≤ k ∧ ¬ E k) w w'
theorem BldU.below {E : Nat → Prop} {B : Nat} {a w w' : World} (h : Below B a w) (k : BldU E B w w') (hB : B ≤ w.heap.size) : Below B a w' := Upd.below h k hB (fun _ h => h.1)
theorem Bld.open_ {E : Nat → Prop} {B b : Nat} {l : Pl.Bytes} {w : World} (h : Bld E B b l w) : B ≤ b ∧ b < w.heap.size ∧ ∃ p v, w.heap[b]? = some (.cells #[p, v] 55 (0, 0)) ∧ (p = .pointer none ∨ p = .pointer (some ⟨b, 0, none⟩)) ∧ w.cell? ⟨b, 1, none⟩ = some v ∧ w.ownsRow B 5 1 v (u8s l).length (u8s l) ∧ v.ownBlock ≠ some b := by
  rcases h.1 with ⟨hB, v, hb, ho, hn⟩ | ⟨hB, v, hb, ho, hn⟩
  · exact ⟨hB, (Array.getElem?_eq_some_iff.1 hb).1, _, v, hb, .inl rfl, by rw [Lib.cell_of_heap hb]; rfl, ho, hn⟩
  · exact ⟨hB, (Array.getElem?_eq_some_iff.1 hb).1, _, v, hb, .inr rfl, by rw [Lib.cell_of_heap hb]; rfl, ho, hn⟩
theorem Bld.mk_ {E : Nat → Prop} {B b : Nat} {l : Pl.Bytes} {w : World} {p v : Value} (hB : B ≤ b) (hb : w.heap[b]? = some (.cells #[p, v] 55 (0, 0))) (hp : p = .pointer none ∨ p = .pointer (some ⟨b, 0, none⟩)) (ho : w.ownsRow B 5 1 v (u8s l).length (u8s l)) (hn : v.ownBlock ≠ some b)
    (hE : ∀ k, E k → k < w.heap.size ∧ k ≠ b ∧ notRow 5 w k) : Bld E B b l w := by
  refine ⟨?_, hE⟩
  rcases hp with rfl | rfl
  · exact .inl ⟨hB, v, hb, ho, hn⟩
  · exact .inr ⟨hB, v, hb, ho, hn⟩
theorem Bld.upd {E S : Nat → Prop} {B b : Nat} {l : Pl.Bytes} {w w' : World} (h : Bld E B b l w) (hu : Upd S w w') (hb : ¬ S b) (hs : ∀ k, S k → k < w.heap.size → E k) (hE : ∀ k, E k → S k → notRow 5 w' k) : Bld E B b l w' := by
  obtain ⟨hB, hlt, p, v, hbk, hp, hc, ho, hn⟩ := h.open_
  refine Bld.mk_ hB ((hu.block b hlt hb).trans hbk) hp (hu.own ho (fun i hi hsi => ?_)) hn (fun k hk => ?_)
  · exact own_notRow ho (h.2 i (hs i hsi (own_lt ho i hi))).2.2 hi
  · have h1 := h.2 k hk
    refine ⟨Nat.lt_of_lt_of_le h1.1 hu.size, h1.2.1, ?_⟩
    by_cases hS : S k
    · exact hE k hk hS
    · intro c f; rw [hu.block k h1.1 hS]; exact h1.2.2 c f
theorem Bld.below {E : Nat → Prop} {B b : Nat} {l : Pl.Bytes} {w w' : World} (h : Bld E B b l w) (hu : Below w.heap.size w w') : Bld E B b l w' :=
  h.upd (S := fun _ => False) (Upd.of_below hu) id (fun _ h => h.elim) (fun _ _ h => h.elim)
/-- A new block is none of its own. -/
theorem Bld.alloc {E : Nat → Prop} {B b : Nat} {l : Pl.Bytes} {w : World} (h : Bld E B b l w) (cs : Array Value) (t : TypeId) (ht : t ≠ 5) : Bld (fun k => E k ∨ k = w.heap.size) B b l (w.alloc (.cells cs t)) := by
  obtain ⟨hB, hlt, p, v, hbk, hp, hc, ho, hn⟩ := h.open_
  refine Bld.mk_ hB ((Below.heap_alloc _ _ _ hlt).trans hbk) hp (own_new ho _) hn (fun k hk => ?_)
  rcases hk with hk | rfl
  · have h1 := h.2 k hk
    exact ⟨by simp; omega, h1.2.1, fun c f => by rw [Below.heap_alloc _ _ _ h1.1]; exact h1.2.2 c f⟩
  · exact ⟨by simp, by omega, notRow_of (cells := cs) (t := t) (fr := (0, 0)) (by show (w.heap.push _)[w.heap.size]? = _; simp) ht⟩
theorem Bld.less {E E' : Nat → Prop} {B b : Nat} {l : Pl.Bytes} {w : World} (h : Bld E B b l w) (hs : ∀ k, E' k → E k) : Bld E' B b l w := ⟨h.1, fun k hk => h.2 k (hs k hk)⟩
theorem bld_size : (Tryd.prog.info? 55).map (·.size) = some 2 := by kernel_rfl
theorem bld_lies : liesAt Tryd.prog Tryd.prog.depth 55 (2 / Tryd.prog.cellsOf 55) 0 55 1 = true := by kernel_rfl
theorem bld_new (w : World) : Bld (fun _ => False) w.heap.size w.heap.size [] (w.alloc (.cells #[.pointer none, .slice none 0 0] 55)) :=
  Bld.mk_ (Nat.le_refl _) (by show (w.heap.push _)[w.heap.size]? = _; simp) (.inl rfl) (own_none _ _ _ _) (by simp [Value.ownBlock]) (fun _ h => h.elim)

set_option maxRecDepth 100000 in
theorem bld_check (b : Nat) (p v : Value) (w : World) (hb : w.heap[b]? = some (.cells #[p, v] 55 (0, 0))) (hp : p = .pointer none ∨ p = .pointer (some ⟨b, 0, none⟩)) :
    Calls Tryd.prog 32 #[.pointer (some ⟨b, 0, none⟩)] w fun en w' => en = .returned (.tuple #[]) ∧ w'.heap[b]? = some (.cells #[.pointer (some ⟨b, 0, none⟩), v] 55 (0, 0)) ∧ Upd (· = b) w w' := by
  obtain ⟨j, hj, hjs⟩ := Option.map_eq_some_iff.1 bld_size
  have c0 : w.cell? ⟨b, 0, none⟩ = some p := by rw [Lib.cell_of_heap hb]; rfl
  rcases hp with rfl | rfl
  · have hsh : w.shape? b = some (55, 2) := by simp [World.shape?, hb]
    have hfz : w.frozen? ⟨b, 0, none⟩ = false := Lib.frozen_of_heap hb 0
    have hq : (w.setCell ⟨b, 0, none⟩ (.pointer (some ⟨b, 0, none⟩))).heap[b]? = some (.cells #[.pointer (some ⟨b, 0, none⟩), v] 55 (0, 0)) := by
      unfold World.setCell; simp [Array.getElem?_modify, hb]
    have HQ := Lib.hid hq
    clear hb hq
    go_enter Tryd.func32, Tryd.ntmps32
    go_wp2
    rw [Lib.run_to_unsafe w ⟨b, 0, none⟩ Tryd.underlying52 Tryd.underlying102 hj (by rw [hjs]; decide) hsh (Nat.zero_lt_succ 1)]
    simp only [Result.andThen]
    rw [Oper.upon_value]
    go_wp2
    rw [run_callFunc_extern Tryd.func57 (by kernel_rfl) (by kernel_rfl) (by kernel_rfl) (e := Extern.AbiNoEscape.same) (by kernel_rfl)]
    rw [Lib.run_noEscape]
    simp only [Result.andThen]
    rw [Oper.upon_value]
    go_wp2
    rw [Lib.run_from_unsafe w ⟨b, 0, none⟩ Tryd.underlying102 Tryd.underlying52 hj hsh bld_lies]
    simp only [Result.andThen]
    rw [Oper.upon_value]
    go_wp2
    go_end0
    exact ⟨rfl, HQ.out, (Upd.refl (· = b) w).set (.inl rfl) 0 _⟩
  · have HB := Lib.hid hb
    clear hb
    go_enter Tryd.func32, Tryd.ntmps32
    go_wp2
    rw [Lib.run_neq_ptr_same _ _ Tryd.underlying52 hj]
    go_wp2
    go_end0
    exact ⟨rfl, HB.out, Upd.refl _ _⟩

/-- Behind a write: the builder's new row v' and its second cell. -/
theorem bld_after {E : Nat → Prop} {B b : Nat} {l l' : Pl.Bytes} {w w1 w2 : World} {v v' : Value} (h : Bld E B b l w) (hB : B ≤ b) (hlt : b < w.heap.size) (hn : v.ownBlock ≠ some b)
    (hb1 : w1.heap[b]? = some (.cells #[.pointer (some ⟨b, 0, none⟩), v] 55 (0, 0))) (hu1 : Upd (· = b) w w1) (ho0 : w.ownsRow B 5 1 v (u8s l).length (u8s l))
    (ho' : w2.ownsRow B 5 1 v' (u8s l').length (u8s l')) (hu2 : Upd (fun k => v.ownBlock = some k) w1 w2) :
    w2.heap[b]? = some (.cells #[.pointer (some ⟨b, 0, none⟩), v] 55 (0, 0)) ∧ Bld E B b l' (w2.setCell ⟨b, 1, none⟩ v') ∧ BldU E B w (w2.setCell ⟨b, 1, none⟩ v') := by
  have hz1 := hu1.size
  have hz2 := hu2.size
  have hb2 : w2.heap[b]? = some (.cells #[.pointer (some ⟨b, 0, none⟩), v] 55 (0, 0)) := (hu2.block b (by omega) hn).trans hb1
  have hn' : v'.ownBlock ≠ some b := own_notRow ho' (notRow_of hb2 (by decide))
  have hb3 : (w2.setCell ⟨b, 1, none⟩ v').heap[b]? = some (.cells #[.pointer (some ⟨b, 0, none⟩), v'] 55 (0, 0)) := by
    unfold World.setCell; simp [Array.getElem?_modify, hb2]
  have h12 : BldU E B w w2 := (hu1.mono (fun k hk => by subst hk; exact ⟨hB, fun hE => (h.2 _ hE).2.1 rfl⟩)).trans (hu2.mono (fun k hk => ⟨own_ge ho0 k hk, fun hE => own_notRow ho0 (h.2 k hE).2.2 hk⟩))
  have h13 : BldU E B w (w2.setCell ⟨b, 1, none⟩ v') := h12.set (.inl ⟨hB, fun hE => (h.2 _ hE).2.1 rfl⟩) 1 v'
  refine ⟨hb2, Bld.mk_ hB hb3 (.inr rfl) ?_ hn' (fun k hk => ?_), h13⟩
  · exact ((Upd.refl (· = b) w2).set (.inl rfl) 1 v').own ho' (fun i hi e => hn' (by rw [hi, e]))
  · have h1 := h.2 k hk
    exact ⟨Nat.lt_of_lt_of_le h1.1 h13.size, h1.2.1, fun c f => by rw [h13.block k h1.1 (fun h => h.2 hk)]; exact h1.2.2 c f⟩

set_option maxRecDepth 100000 in
theorem bld_byte (E : Nat → Prop) (B b : Nat) (l : Pl.Bytes) (c : Int) (w : World) (h : Bld E B b l w) (hlen : l.length + 1 ≤ 140737488355328) (hc0 : 0 ≤ c) (hc : c < 256) :
    Calls Tryd.prog 34 #[.pointer (some ⟨b, 0, none⟩), .int .u8 c] w fun en w' => en = .returned .nilIface ∧ Bld E B b (l ++ [UInt8.ofNat c.toNat]) w' ∧ BldU E B w w' := by
  have hl : (u8s l).length = l.length := by simp [u8s]
  obtain ⟨hB, hlt, p, v, hbk, hp, hcl, ho, hn⟩ := h.open_
  have H := Lib.hid h
  clear h hcl
  have e1 : Hid (u8s l ++ [.int .u8 c] = u8s (l ++ [UInt8.ofNat c.toNat])) := by
    unfold Hid
    have : ((UInt8.ofNat c.toNat).toNat : Int) = c := by simp; omega
    rw [u8s_snoc, this]
  go_enter Tryd.func34, Tryd.ntmps34
  go_wp2_with (go_at_call 32; refine (bld_check b p v w hbk hp).mono ?_)
  rintro e w1 ⟨rfl, hb1, hu1⟩
  have hz := hu1.size
  have ho1 := hu1.own ho (fun i hi e => hn (by rw [hi, e]))
  have c0 : w1.cell? ⟨b, 0, none⟩ = some (.pointer (some ⟨b, 0, none⟩)) := by rw [Lib.cell_of_heap hb1]; rfl
  have c1 : w1.cell? ⟨b, 1, none⟩ = some v := by rw [Lib.cell_of_heap hb1]; rfl
  go_wp2_with (at_builtin; refine app_new _ _ 53 5 (.int .u8 0) 1 1 Tryd.underlying53 info5 rfl (by decide) rfl rfl rfl ho1 (by omega) [.int .u8 c] 1 rfl rfl ?c2 ?c3 (by decide) ?_)
  case c2 => simp [Value.oneCell']
  case c3 => omega
  intro v' w2 hown' hupd
  rw [e1.out] at hown'
  obtain ⟨hb2, hfin, hufin⟩ := bld_after (l' := l ++ [UInt8.ofNat c.toNat]) H.out hB hlt hn hb1 hu1 ho (by simpa [u8s] using hown') hupd
  have d0 : w2.cell? ⟨b, 0, none⟩ = some (.pointer (some ⟨b, 0, none⟩)) := by rw [Lib.cell_of_heap hb2]; rfl
  have d1 : w2.cell? ⟨b, 1, none⟩ = some v := by rw [Lib.cell_of_heap hb2]; rfl
  have f1 : w2.frozen? ⟨b, 1, none⟩ = false := Lib.frozen_of_heap hb2 1
  obtain ⟨g, cap, rfl⟩ : ∃ g cap, v' = .slice (some ⟨g, 0, none⟩) (l.length + 1) cap := by
    rcases hown'.2 with ⟨_, h0⟩ | ⟨g, cap, cur, hv, _⟩
    · simp at h0
    · exact ⟨g, cap, hv⟩
  have HF := Lib.hid hfin
  have HU := Lib.hid hufin
  clear hupd hfin hufin hown' hu1 hb1 hbk
  go_wp2
  go_ret
  exact ⟨rfl, HF.out, HU.out⟩

set_option maxRecDepth 100000 in
theorem bld_str (E : Nat → Prop) (B b : Nat) (l : Pl.Bytes) (s : ByteArray) (w : World) (h : Bld E B b l w) (hlen : l.length + s.size ≤ 140737488355328) :
    Calls Tryd.prog 16 #[.pointer (some ⟨b, 0, none⟩), .string s] w fun en w' => en = .returned (.tuple #[.int .i64 s.size, .nilIface]) ∧ Bld E B b (l ++ s.data.toList) w' ∧ BldU E B w w' := by
  obtain ⟨i0, hi, hz0, hz1, hz2⟩ := info_parts info5
  have hl : (u8s l).length = l.length := by simp [u8s]
  obtain ⟨hB, hlt, p, v, hbk, hp, hcl, ho, hn⟩ := h.open_
  have H := Lib.hid h
  clear h hcl
  go_enter Tryd.func16, Tryd.ntmps16
  go_wp2_with (go_at_call 32; refine (bld_check b p v w hbk hp).mono ?_)
  rintro e w1 ⟨rfl, hb1, hu1⟩
  have hz := hu1.size
  have ho1 := hu1.own ho (fun i hi e => hn (by rw [hi, e]))
  have c0 : w1.cell? ⟨b, 0, none⟩ = some (.pointer (some ⟨b, 0, none⟩)) := by rw [Lib.cell_of_heap hb1]; rfl
  have c1 : w1.cell? ⟨b, 1, none⟩ = some v := by rw [Lib.cell_of_heap hb1]; rfl
  go_wp2_with (at_builtin; refine Lib.wpList_append_own_string _ rfl _ _ 53 9 rfl B 5 i0 Tryd.underlying53 Tryd.underlying9 hi hz0 hz1 hz2 _ _ _ rfl ho1 s rfl ?c3 ?c4 ?c5 ?_)
  case c3 => unfold maxLen; omega
  case c4 => omega
  case c5 => omega
  intro v' w2 hown' hgrow _
  have e1 : u8s l ++ Lib.strCells s = u8s (l ++ s.data.toList) := by rw [u8s_append]; rfl
  rw [e1] at hown'
  obtain ⟨hb2, hfin, hufin⟩ := bld_after (l' := l ++ s.data.toList) H.out hB hlt hn hb1 hu1 ho (by simpa [u8s] using hown') (Upd.grown hgrow)
  have d0 : w2.cell? ⟨b, 0, none⟩ = some (.pointer (some ⟨b, 0, none⟩)) := by rw [Lib.cell_of_heap hb2]; rfl
  have d1 : w2.cell? ⟨b, 1, none⟩ = some v := by rw [Lib.cell_of_heap hb2]; rfl
  have f1 : w2.frozen? ⟨b, 1, none⟩ = false := Lib.frozen_of_heap hb2 1
  obtain ⟨ao, n', cap, rfl⟩ : ∃ ao n' cap, v' = .slice ao n' cap := by
    rcases hown'.2 with ⟨hv, _⟩ | ⟨g, cap, cur, hv, _⟩
    · exact ⟨_, _, _, hv⟩
    · exact ⟨_, _, _, hv⟩
  have HF := Lib.hid hfin
  have HU := Lib.hid hufin
  clear hfin hufin hown' hu1 hb1 hbk hgrow
  go_wp2
  go_ret2
  exact ⟨rfl, HF.out, HU.out⟩

theorem bld_string (E : Nat → Prop) (B b : Nat) (l : Pl.Bytes) (w : World) (h : Bld E B b l w) (hBw : B ≤ w.heap.size) :
    Calls Tryd.prog 20 #[.pointer (some ⟨b, 0, none⟩)] w fun e w' => e = .returned (.string (Pl.str l)) ∧ Below B w w' := Tryd.Builder_String_any B b l w h.1 hBw

/-- Two texts put together. -/
theorem str_cat (x y : Pl.Bytes) (h : x.length + y.length ≤ 4611686018427387904) : Op.stringOp .add (Pl.str x) (Pl.str y) = pure (.string (Pl.str (x ++ y))) := by
  have h1 : (Pl.str x).size = x.length := by simp [Pl.str, ByteArray.size]
  have h2 : (Pl.str y).size = y.length := by simp [Pl.str, ByteArray.size]
  unfold Op.stringOp
  simp only
  rw [if_neg (by rw [h1, h2, show IntKind.i64.max = 9223372036854775807 from rfl]; omega)]
  congr 2
theorem str_size (x : Pl.Bytes) : (Pl.str x).size = x.length := by simp [Pl.str, ByteArray.size]
/-- strings.CutPrefix. -/
def isPre (p l : Pl.Bytes) : Bool := p.isPrefixOf l
theorem tl_data (s : ByteArray) : s.toList = s.data.toList := ByteArray.toList_eq s
theorem str_data (s : ByteArray) : Pl.str s.data.toList = s := by
  apply ByteArray.ext; simp [Pl.str]
theorem drop_ext (s : ByteArray) (n : Nat) (h : n ≤ s.size) : s.extract n s.size = Pl.str (s.data.toList.drop n) := by
  have := extract_str s n (s.size - n)
  rw [show n + (s.size - n) = s.size from by omega] at this
  rw [this, List.take_of_length_le (by simp)]; rfl
theorem pre_len {s p : ByteArray} (h : isPre p.data.toList s.data.toList = true) : p.size ≤ s.size := by
  have := (List.isPrefixOf_iff_prefix.1 h).length_le
  simpa using this
theorem pre_gt (s p : ByteArray) (h : ¬ p.size ≤ s.size) : isPre p.data.toList s.data.toList = false := by
  rw [Bool.eq_false_iff]; exact fun h' => h (pre_len h')
theorem pre_le (s p : ByteArray) (_h : p.size ≤ s.size) : ((s.extract 0 p.size).toList == p.toList) = isPre p.data.toList s.data.toList := by
  have h1 : s.extract 0 p.size = ⟨((s.data.toList.drop 0).take p.size).toArray⟩ := by have := extract_str s 0 p.size; simpa using this
  rw [tl_data, tl_data, h1, Bool.eq_iff_iff]
  simp only [isPre, List.isPrefixOf_iff_prefix, List.drop_zero, beq_iff_eq]
  constructor
  · intro e
    refine ⟨s.data.toList.drop p.size, ?_⟩
    rw [← e]; exact List.take_append_drop _ _
  · rintro ⟨t, e⟩
    show s.data.toList.take p.size = _
    rw [← e, show p.size = p.data.toList.length from by simp, List.take_left']
    rfl
set_option maxRecDepth 100000 in
theorem has_pre (s p : ByteArray) (w : World) :
    Calls Tryd.prog 75 #[.string s, .string p] w fun en w' => en = .returned (.bool (isPre p.data.toList s.data.toList)) ∧ w = w' := by
  by_cases h : p.size ≤ s.size
  · have t1 : decide ((p.size : Int) ≤ s.size) = true := decide_eq_true (by omega)
    have t2 : decide (p.size ≤ s.size) = true := decide_eq_true h
    go_enter Tryd.func75, Tryd.ntmps75
    go_wp2
    go_ret
    exact ⟨ret_bool (pre_le s p h), rfl⟩
  · have t1 : decide ((p.size : Int) ≤ s.size) = false := decide_eq_false (by omega)
    have t2 : decide (p.size ≤ s.size) = false := decide_eq_false h
    go_enter Tryd.func75, Tryd.ntmps75
    go_wp2
    go_ret
    exact ⟨ret_bool (pre_gt s p h).symm, rfl⟩
/-- What is left behind a beginning. -/
def cutPre (p l : Pl.Bytes) : Pl.Bytes × Bool := if isPre p l then (l.drop p.length, true) else (l, false)
theorem ret_sb {a a' : ByteArray} {b b' : Bool} (h : a = a') (h2 : b = b') : Ending.returned (.tuple #[.string a, .bool b]) = .returned (.tuple #[.string a', .bool b']) := by rw [h, h2]
set_option maxRecDepth 100000 in
theorem cut_pre0 (s p : ByteArray) (w : World) :
    Calls Tryd.prog 59 #[.string s, .string p] w fun en w' => en = .returned (.tuple #[.string (Pl.str (cutPre p.data.toList s.data.toList).1), .bool (cutPre p.data.toList s.data.toList).2]) ∧ w = w' := by
  have H := Lib.hid (has_pre s p w)
  by_cases hpre : isPre p.data.toList s.data.toList = true
  · have hle : p.size ≤ s.size := pre_len hpre
    have HC : Hid (cutPre p.data.toList s.data.toList = (s.data.toList.drop p.size, true)) := by unfold Hid cutPre; rw [if_pos hpre]; simp
    rw [hpre] at H
    clear hpre
    go_enter Tryd.func59, Tryd.ntmps59
    go_wp2_with fail
    refine H.out.mono ?_
    rintro en w1 ⟨rfl, rfl⟩
    go_wp2
    go_ret2
    exact ⟨ret_sb (by rw [HC.out]; exact drop_ext s p.size hle) (by rw [HC.out]), rfl⟩
  · have hf : isPre p.data.toList s.data.toList = false := by simpa using hpre
    have HC : Hid (cutPre p.data.toList s.data.toList = (s.data.toList, false)) := by unfold Hid cutPre; rw [if_neg hpre]
    rw [hf] at H
    clear hpre hf
    go_enter Tryd.func59, Tryd.ntmps59
    go_wp2_with fail
    refine H.out.mono ?_
    rintro en w1 ⟨rfl, rfl⟩
    go_wp2
    go_ret2
    exact ⟨ret_sb (by rw [HC.out]; exact (str_data s).symm) (by rw [HC.out]), rfl⟩
set_option maxRecDepth 100000 in
theorem cut_pre (s p : ByteArray) (w : World) :
    Calls Tryd.prog 37 #[.string s, .string p] w fun en w' => en = .returned (.tuple #[.string (Pl.str (cutPre p.data.toList s.data.toList).1), .bool (cutPre p.data.toList s.data.toList).2]) ∧ w = w' := by
  have H := Lib.hid (cut_pre0 s p w)
  go_enter Tryd.func37, Tryd.ntmps37
  go_wp2_with fail
  refine H.out.mono ?_
  rintro en w1 ⟨rfl, rfl⟩
  go_wp2
  go_ret2
  exact ⟨rfl, rfl⟩
end Go.Proofs.YtdejljgoebcmpaaDoor
/- The cursor: what each of its methods does. -/
namespace Go.Proofs.YtdejljgoebcmpaaDoor
open Go.RowKit
theorem Upd.set1 (w : World) (g j : Nat) (u : Value) : Upd (· = g) w (w.setCell ⟨g, j, none⟩ u) := (Upd.refl (· = g) w).set (.inl rfl) j u

/-- An error's number as the cursor keeps it. -/
def errV (e : Int) : Value := if e = 0 then .nilIface else .iface 108 (.int .i64 e)
theorem errV_zero : errV 0 = .nilIface := rfl
theorem errV_ne {e : Int} (h : e ≠ 0) : errV e = .iface 108 (.int .i64 e) := if_neg h
/-- Block g is a cursor. -/
def CurAt (w : World) (g : Nat) (b : ByteArray) (p e : Int) : Prop := w.heap[g]? = some (.cells #[.string b, .int .i64 p, errV e] 106 (0, 0))
theorem CurAt.cell0 {w : World} {g : Nat} {b : ByteArray} {p e : Int} (h : CurAt w g b p e) : w.cell? ⟨g, 0, none⟩ = some (.string b) := by unfold World.cell?; rw [h]; rfl
theorem CurAt.cell1 {w : World} {g : Nat} {b : ByteArray} {p e : Int} (h : CurAt w g b p e) : w.cell? ⟨g, 1, none⟩ = some (.int .i64 p) := by unfold World.cell?; rw [h]; rfl
theorem CurAt.cell2 {w : World} {g : Nat} {b : ByteArray} {p e : Int} (h : CurAt w g b p e) : w.cell? ⟨g, 2, none⟩ = some (errV e) := by unfold World.cell?; rw [h]; rfl
theorem CurAt.froz {w : World} {g : Nat} {b : ByteArray} {p e : Int} (h : CurAt w g b p e) (j : Nat) : w.frozen? ⟨g, j, none⟩ = false := by unfold World.frozen?; rw [h]; simp
theorem CurAt.set1 {w : World} {g : Nat} {b : ByteArray} {p e : Int} (h : CurAt w g b p e) (q : Int) : CurAt (w.setCell ⟨g, 1, none⟩ (.int .i64 q)) g b q e := by
  unfold CurAt World.setCell at *; simp [Array.getElem?_modify, h]
theorem CurAt.set2 {w : World} {g : Nat} {b : ByteArray} {p e : Int} (h : CurAt w g b p e) (q : Int) : CurAt (w.setCell ⟨g, 2, none⟩ (errV q)) g b p q := by
  unfold CurAt World.setCell at *; simp [Array.getElem?_modify, h]
theorem CurAt.lt {w : World} {g : Nat} {b : ByteArray} {p e : Int} (h : CurAt w g b p e) : g < w.heap.size := (Array.getElem?_eq_some_iff.1 h).1
theorem CurAt.drewN {w : World} {g : Nat} {b : ByteArray} {p e : Int} (h : CurAt w g b p e) (n : Nat) : CurAt (w.drewN n) g b p e := h
theorem CurAt.upd {w w' : World} {g : Nat} {b : ByteArray} {p e : Int} (h : CurAt w g b p e) {S : Nat → Prop} (hu : Upd S w w') (hs : ¬ S g) : CurAt w' g b p e := (hu.block g h.lt hs).trans h

set_option maxRecDepth 100000 in
theorem cur_err (g : Nat) (b : ByteArray) (p e : Int) (w : World) (h : CurAt w g b p e) :
    Calls Tryd.prog 41 #[.pointer (some ⟨g, 0, none⟩)] w fun en w' => en = .returned (.int .i64 e) ∧ w = w' := by
  have h2 := h.cell2
  clear h
  by_cases he : e = 0
  · subst he
    rw [errV_zero] at h2
    have hta : ∀ W, (Instr.typeAssert .nilIface 57 108 true).run Tryd.prog W = .ok (.tuple #[.int .i64 0, .bool false]) W := fun W => by rfl
    go_enter Tryd.func41, Tryd.ntmps41
    go_wp2
    go_ret
    exact ⟨rfl, rfl⟩
  · rw [errV_ne he] at h2
    have hta : ∀ W, (Instr.typeAssert (.iface 108 (.int .i64 e)) 57 108 true).run Tryd.prog W = .ok (.tuple #[.int .i64 e, .bool true]) W := fun W => by rfl
    clear he
    go_enter Tryd.func41, Tryd.ntmps41
    go_wp2
    go_ret
    exact ⟨rfl, rfl⟩

def cFail (e k : Int) : Int := if e = 0 then k else e
set_option maxRecDepth 100000 in
theorem cur_fail (g : Nat) (b : ByteArray) (p e k : Int) (w : World) (h : CurAt w g b p e) :
    Calls Tryd.prog 40 #[.pointer (some ⟨g, 0, none⟩), .int .i64 k] w fun en w' => en = .returned (.tuple #[]) ∧ CurAt w' g b p (cFail e k) ∧ Upd (· = g) w w' := by
  have h2 := h.cell2
  have hf := h.froz 2
  by_cases he : e = 0
  · subst he
    rw [errV_zero] at h2
    by_cases hk : k = 0
    · subst hk
      have H := Lib.hid h
      clear h
      go_enter Tryd.func40, Tryd.ntmps40
      go_wp2
      go_end0
      exact ⟨rfl, H.out, Upd.refl _ _⟩
    · have hk1 : (k != 0) = true := by simp [hk]
      have hq : CurAt (w.setCell ⟨g, 2, none⟩ (.iface 108 (.int .i64 k))) g b p k := by have := h.set2 k; rwa [errV_ne hk] at this
      have H := Lib.hid hq
      have HC : cFail 0 k = k := rfl
      clear h hk hq
      go_enter Tryd.func40, Tryd.ntmps40
      go_wp2
      go_end0
      exact ⟨rfl, H.out, Upd.set1 _ g 2 _⟩
  · rw [errV_ne he] at h2
    have HC : cFail e k = e := if_neg he
    have H := Lib.hid h
    clear h he
    go_enter Tryd.func40, Tryd.ntmps40
    go_wp2
    go_end0
    exact ⟨rfl, by rw [HC]; exact H.out, Upd.refl _ _⟩

set_option maxRecDepth 100000 in
theorem cur_left (g : Nat) (b : ByteArray) (p : Nat) (e : Int) (w : World) (h : CurAt w g b p e) (h1 : p ≤ b.size) (hb : b.size ≤ 140737488355328) :
    Calls Tryd.prog 42 #[.pointer (some ⟨g, 0, none⟩)] w fun en w' => ∃ n, en = .returned (.int .i64 (b.size - p)) ∧ w' = w.drewN n := by
  have c0 := h.cell0
  have c1 := h.cell1
  clear h
  go_enter Tryd.func42, Tryd.ntmps42
  go_wp2
  go_quiet (fail)
  go_wp2
  go_ret
  exact ⟨_, rfl, rfl⟩

/-- The next n bytes; where one stands then; the error. -/
def cBytes (l : Pl.Bytes) (p : Nat) (e n : Int) : Pl.Bytes × Nat × Int :=
  if e ≠ 0 then ([], p, e) else if n < 0 then ([], p, 1) else if (l.length : Int) - p < n then ([], p, 2) else ((l.drop p).take n.toNat, p + n.toNat, 0)
theorem cBytes_ok {l : Pl.Bytes} {p n : Nat} (h : p + n ≤ l.length) : cBytes l p 0 n = ((l.drop p).take n, p + n, 0) := by
  unfold cBytes
  rw [if_neg (by simp), if_neg (by omega), if_neg (by omega)]; rfl
set_option maxRecDepth 100000 in
theorem cur_bytes_err (g : Nat) (b : ByteArray) (p : Nat) (e n : Int) (w : World) (h : CurAt w g b p e) (he : e ≠ 0) :
    Calls Tryd.prog 60 #[.pointer (some ⟨g, 0, none⟩), .int .i64 n] w fun en w' => en = .returned (.string (Pl.str [])) ∧ w = w' := by
  have c2 := h.cell2
  rw [errV_ne he] at c2
  clear h he
  go_enter Tryd.func60, Tryd.ntmps60
  go_wp2
  go_ret
  exact ⟨rfl, rfl⟩
set_option maxRecDepth 100000 in
theorem cur_bytes (g : Nat) (b : ByteArray) (p : Nat) (e n : Int) (w : World) (h : CurAt w g b p e) (h1 : p ≤ b.size) (hb : b.size ≤ 140737488355328) (hn : -9223372036854775808 ≤ n ∧ n ≤ 9223372036854775807) :
    Calls Tryd.prog 60 #[.pointer (some ⟨g, 0, none⟩), .int .i64 n] w fun en w' => en = .returned (.string (Pl.str (cBytes b.data.toList p e n).1)) ∧ CurAt w' g b (cBytes b.data.toList p e n).2.1 (cBytes b.data.toList p e n).2.2 ∧ Upd (· = g) w w' := by
  by_cases he : e = 0
  · subst he
    have c0 := h.cell0
    have c1 := h.cell1
    have c2 := h.cell2
    have f1 := h.froz 1
    rw [errV_zero] at c2
    have hl : b.data.toList.length = b.size := by simp
    by_cases hn0 : n < 0
    · have H := Lib.hid h
      have HC : Hid (cBytes b.data.toList p 0 n = ([], p, 1)) := by unfold Hid cBytes; rw [if_neg (by simp), if_pos hn0]
      have t1 : decide (n < 0) = true := decide_eq_true hn0
      clear h
      go_enter Tryd.func60, Tryd.ntmps60
      go_wp2_with (go_at_call 40; refine (cur_fail g b p 0 1 w H.out).mono ?_; rintro en w1 ⟨rfl, hq, hu⟩)
      go_ret
      rw [HC.out]
      exact ⟨rfl, hq, hu⟩
    · have H := Lib.hid h
      clear h
      obtain ⟨n, rfl⟩ := Int.eq_ofNat_of_zero_le (Int.not_lt.1 hn0)
      have t1 : decide ((n : Int) < 0) = false := decide_eq_false hn0
      by_cases hle : p + n ≤ b.size
      · have HC := Lib.hid (cBytes_ok (l := b.data.toList) (p := p) (n := n) (by omega))
        have HS : Hid (CurAt (w.setCell ⟨g, 1, none⟩ (.int .i64 (p + n))) g b (p + n : Nat) 0) := by have := H.out.set1 (p + n : Nat); exact this
        go_enter Tryd.func60, Tryd.ntmps60
        go_wp2_with (go_at_call 42; refine (cur_left g b p 0 w H.out (by omega) hb).mono ?_; rintro en w1 ⟨nq, rfl, rfl⟩)
        go_quiet (fail)
        go_wp2
        go_ret
        rw [HC.out]
        exact ⟨ret_str (extract_str _ _ _), HS.out, ((Upd.refl (· = g) w).drewN _).set (.inl rfl) 1 _⟩
      · have HC : Hid (cBytes b.data.toList p 0 n = ([], p, 2)) := by unfold Hid cBytes; rw [if_neg (by simp), if_neg hn0, if_pos (by omega)]
        go_enter Tryd.func60, Tryd.ntmps60
        go_wp2_with (first | (go_at_call 42; refine (cur_left g b p 0 w H.out (by omega) hb).mono ?_; rintro en w1 ⟨nq, rfl, rfl⟩) | (go_at_call 40; refine (cur_fail g b p 0 2 _ (H.out.drewN _)).mono ?_; rintro en w1 ⟨rfl, hq, hu⟩))
        go_ret
        rw [HC.out]
        exact ⟨rfl, hq, ((Upd.refl _ w).drewN _).trans hu⟩
  · have HC : cBytes b.data.toList p e n = ([], p, e) := if_pos he
    rw [HC]
    refine (cur_bytes_err g b p e n w h he).mono ?_
    rintro en w' ⟨rfl, rfl⟩
    exact ⟨rfl, h, Upd.refl _ _⟩

/-- The next number, whatever it is; the place behind it; the error. -/
def cNum (l : Pl.Bytes) (p : Nat) (e : Int) : Nat × Nat × Int := if e ≠ 0 then (0, p, e) else ((Pl.vGet l p).1, (Pl.vGet l p).2.1, (Pl.vGet l p).2.2)
theorem nat_errV (k : Nat) : cFail 0 (k : Int) = k := by unfold cFail; simp
set_option maxRecDepth 100000 in
theorem cur_number (g : Nat) (b : ByteArray) (p : Nat) (e : Int) (w : World) (h : CurAt w g b p e) (h1 : p ≤ b.size) (hb : b.size ≤ 140737488355328) :
    Calls Tryd.prog 62 #[.pointer (some ⟨g, 0, none⟩)] w fun en w' => en = .returned (.tuple #[.int .u64 (cNum b.data.toList p e).1, .int .i64 (cNum b.data.toList p e).2.1]) ∧ CurAt w' g b p (cNum b.data.toList p e).2.2 ∧ Upd (· = g) w w' := by
  have c0 := h.cell0
  have c1 := h.cell1
  have c2 := h.cell2
  have H := Lib.hid h
  clear h
  by_cases he : e = 0
  · subst he
    rw [errV_zero] at c2
    have hbd := Pl.vGet_bd b.data.toList p (by simpa using h1)
    have HV : ∀ w, Calls Tryd.prog 76 #[.string b, .int .i64 p] w fun en w' => en = vRet (Pl.vGet b.data.toList p) ∧ w' = w := fun w => (vget_any b p w h1 hb).mono fun _ _ ⟨a, b⟩ => ⟨a, b.symm⟩
    have HN : Hid (cNum b.data.toList p 0 = ((Pl.vGet b.data.toList p).1, (Pl.vGet b.data.toList p).2.1, ((Pl.vGet b.data.toList p).2.2 : Int))) := rfl
    generalize Pl.vGet b.data.toList p = r at *
    obtain ⟨r1, r2, r3⟩ := r
    have HV' := Lib.hid HV
    clear HV hbd
    unfold vRet at HV'
    go_enter Tryd.func62, Tryd.ntmps62
    go_wp2
    go_quiet ((go_at_call 76; exact Calls.quiet_of_same (HV'.out _)))
    go_wp2_with (go_at_call 40; refine (cur_fail g b p 0 r3 _ (H.out.drewN _)).mono ?_; rintro en w1 ⟨rfl, hq, hu⟩)
    go_ret2
    rw [HN.out]
    rw [nat_errV] at hq
    exact ⟨rfl, hq, ((Upd.refl _ w).drewN _).trans hu⟩
  · have HN : Hid (cNum b.data.toList p e = (0, p, e)) := if_pos he
    rw [errV_ne he] at c2
    clear he
    go_enter Tryd.func62, Tryd.ntmps62
    go_wp2
    go_quiet (fail)
    go_wp2
    go_ret2
    rw [HN.out]
    exact ⟨rfl, H.out, (Upd.refl _ w).drewN _⟩
theorem cNum_bd (l : Pl.Bytes) (p : Nat) (e : Int) (h : p ≤ l.length) : (cNum l p e).1 < 18446744073709551616 ∧ (cNum l p e).2.1 ≤ l.length := by
  have := Pl.vGet_bd l p h
  unfold cNum; split <;> simp <;> omega
/-- The next number, at most so great; where one stands then; the error. -/
def cUint (l : Pl.Bytes) (p : Nat) (e : Int) (most : Nat) : Nat × Nat × Int :=
  let r := cNum l p e
  if r.2.2 ≠ 0 then (0, p, r.2.2) else if min most 16777216 < r.1 then (0, p, 19) else (r.1, r.2.1, 0)
theorem cUint_bd (l : Pl.Bytes) (p : Nat) (e : Int) (most : Nat) (h : p ≤ l.length) : (cUint l p e most).1 ≤ most ∧ (cUint l p e most).1 ≤ 16777216 ∧ (cUint l p e most).2.1 ≤ l.length := by
  have := cNum_bd l p e h
  unfold cUint
  simp only
  split
  · simp; exact h
  · split
    · simp; exact h
    · simp; omega
set_option maxRecDepth 100000 in
theorem cur_uint (g : Nat) (b : ByteArray) (p : Nat) (e : Int) (most : Nat) (w : World) (h : CurAt w g b p e) (h1 : p ≤ b.size) (hb : b.size ≤ 140737488355328) (hm : most < 18446744073709551616) :
    Calls Tryd.prog 44 #[.pointer (some ⟨g, 0, none⟩), .int .u64 most] w fun en w' => en = .returned (.int .i64 (cUint b.data.toList p e most).1) ∧ CurAt w' g b (cUint b.data.toList p e most).2.1 (cUint b.data.toList p e most).2.2 ∧ Upd (· = g) w w' := by
  have HN := Lib.hid (cur_number g b p e w h h1 hb)
  have hbd := cNum_bd b.data.toList p e (by simpa using h1)
  have HU : Hid (cUint b.data.toList p e most = (if (cNum b.data.toList p e).2.2 ≠ 0 then (0, p, (cNum b.data.toList p e).2.2) else if min most 16777216 < (cNum b.data.toList p e).1 then (0, p, 19) else ((cNum b.data.toList p e).1, (cNum b.data.toList p e).2.1, 0))) := rfl
  have hsz : b.data.toList.length = b.size := by simp
  rw [hsz] at hbd
  clear h hsz
  generalize cNum b.data.toList p e = r at *
  obtain ⟨n, q, k⟩ := r
  simp only at hbd
  have hbd1 := hbd.1
  have hbd2 := hbd.2
  clear hbd
  go_enter Tryd.func44, Tryd.ntmps44
  go_wp2_with fail
  refine HN.out.mono ?_
  rintro en w1 ⟨rfl, hq, hu⟩
  skip
  have c1 := hq.cell1
  have c2 := hq.cell2
  have f1 := hq.froz 1
  have HQ := Lib.hid hq
  clear hq
  by_cases hk : k = 0
  · subst hk
    rw [errV_zero] at c2
    by_cases hgt : min most 16777216 < n
    · have HU2 : Hid (cUint b.data.toList p e most = (0, p, 19)) := by unfold Hid; rw [HU.out, if_neg (by simp), if_pos hgt]
      by_cases hm2 : (16777216 : Int) < most
      all_goals
        have hgt2 : (16777216 : Int) < n ∨ (most : Int) < n := by omega
        have t3 : decide ((16777216 : Int) < n) = true ∨ decide ((most : Int) < n) = true := by simpa using hgt2
        go_wp2_with (go_at_call 40; refine (cur_fail g b p 0 19 _ HQ.out).mono ?_; rintro en w2 ⟨rfl, hq, hu2⟩; have HQ2 := Lib.hid hq; have c3 : w2.cell? ⟨g, 2, none⟩ = some (.iface 108 (.int .i64 19)) := hq.cell2; clear hq)
        go_ret
        rw [HU2.out]
        exact ⟨rfl, HQ2.out, hu.trans hu2⟩
    · have HU2 : Hid (cUint b.data.toList p e most = (n, q, 0)) := by unfold Hid; rw [HU.out, if_neg (by simp), if_neg hgt]
      by_cases hm2 : (16777216 : Int) < most
      all_goals
        go_wp2_with fail
        go_ret
        rw [HU2.out]
        exact ⟨rfl, HQ.out.set1 q, hu.set (.inl rfl) 1 _⟩
  · have HU2 : Hid (cUint b.data.toList p e most = (0, p, k)) := by unfold Hid; rw [HU.out, if_pos hk]
    rw [errV_ne hk] at c2
    clear hk
    go_wp2
    go_ret
    rw [HU2.out]
    exact ⟨rfl, HQ.out, hu⟩

/-- The next signed number. -/
def cInt (l : Pl.Bytes) (p : Nat) (e : Int) : Int × Nat × Int :=
  let r := cNum l p e
  if r.2.2 ≠ 0 then (0, p, r.2.2) else (Pl.zag r.1, r.2.1, 0)
set_option maxRecDepth 100000 in
theorem cur_int (g : Nat) (b : ByteArray) (p : Nat) (e : Int) (w : World) (h : CurAt w g b p e) (h1 : p ≤ b.size) (hb : b.size ≤ 140737488355328) :
    Calls Tryd.prog 63 #[.pointer (some ⟨g, 0, none⟩)] w fun en w' => en = .returned (.int .i64 (cInt b.data.toList p e).1) ∧ CurAt w' g b (cInt b.data.toList p e).2.1 (cInt b.data.toList p e).2.2 ∧ Upd (· = g) w w' := by
  have HN := Lib.hid (cur_number g b p e w h h1 hb)
  have hbd := cNum_bd b.data.toList p e (by simpa using h1)
  have HU : Hid (cInt b.data.toList p e = (if (cNum b.data.toList p e).2.2 ≠ 0 then (0, p, (cNum b.data.toList p e).2.2) else (Pl.zag (cNum b.data.toList p e).1, (cNum b.data.toList p e).2.1, 0))) := rfl
  clear h
  generalize cNum b.data.toList p e = r at *
  obtain ⟨n, q, k⟩ := r
  simp only at hbd
  have hbd1 := hbd.1
  clear hbd
  go_enter Tryd.func63, Tryd.ntmps63
  go_wp2_with fail
  refine HN.out.mono ?_
  rintro en w1 ⟨rfl, hq, hu⟩
  have c1 := hq.cell1
  have c2 := hq.cell2
  have f1 := hq.froz 1
  have HQ := Lib.hid hq
  clear hq
  by_cases hk : k = 0
  · subst hk
    rw [errV_zero] at c2
    have HU2 : Hid (cInt b.data.toList p e = (Pl.zag n, q, 0)) := by unfold Hid; rw [HU.out, if_neg (by simp)]
    go_wp2_with (go_at_call 77; refine (zag_any n _ hbd1).mono ?_; rintro en w2 ⟨rfl, rfl⟩)
    go_ret
    rw [HU2.out]
    exact ⟨rfl, HQ.out.set1 q, hu.set (.inl rfl) 1 _⟩
  · have HU2 : Hid (cInt b.data.toList p e = (0, p, k)) := by unfold Hid; rw [HU.out, if_pos hk]
    rw [errV_ne hk] at c2
    clear hk
    go_wp2
    go_ret
    rw [HU2.out]
    exact ⟨rfl, HQ.out, hu⟩

/-- The next text: its length, and its bytes. -/
def cText (l : Pl.Bytes) (p : Nat) (e : Int) (most : Nat) : Pl.Bytes × Nat × Int :=
  let r := cUint l p e most
  let s := cBytes l r.2.1 r.2.2 r.1
  if s.2.2 ≠ 0 then ([], p, s.2.2) else s
set_option maxRecDepth 100000 in
theorem cur_text (g : Nat) (b : ByteArray) (p : Nat) (e most : Int) (w : World) (h : CurAt w g b p e) (h1 : p ≤ b.size) (hb : b.size ≤ 140737488355328) (hm0 : -9223372036854775808 ≤ most) (hm : most ≤ 9223372036854775807) :
    Calls Tryd.prog 65 #[.pointer (some ⟨g, 0, none⟩), .int .i64 most] w fun en w' => en = .returned (.string (Pl.str (cText b.data.toList p e most.toNat).1)) ∧ CurAt w' g b (cText b.data.toList p e most.toNat).2.1 (cText b.data.toList p e most.toNat).2.2 ∧ Upd (· = g) w w' := by
  have hsz : b.data.toList.length = b.size := by simp
  have HN := Lib.hid (cur_uint g b p e most.toNat w h h1 hb (by omega))
  have hbd := cUint_bd b.data.toList p e most.toNat (by omega)
  rw [hsz] at hbd
  have HU : Hid (cText b.data.toList p e most.toNat = (if (cBytes b.data.toList (cUint b.data.toList p e most.toNat).2.1 (cUint b.data.toList p e most.toNat).2.2 (cUint b.data.toList p e most.toNat).1).2.2 ≠ 0 then ([], p, (cBytes b.data.toList (cUint b.data.toList p e most.toNat).2.1 (cUint b.data.toList p e most.toNat).2.2 (cUint b.data.toList p e most.toNat).1).2.2) else cBytes b.data.toList (cUint b.data.toList p e most.toNat).2.1 (cUint b.data.toList p e most.toNat).2.2 (cUint b.data.toList p e most.toNat).1)) := rfl
  have c1 := h.cell1
  clear h hsz
  generalize cUint b.data.toList p e most.toNat = r at *
  obtain ⟨n, q, k⟩ := r
  simp only at hbd
  have hbd1 := hbd.2.1
  have hbd2 := hbd.2.2
  clear hbd
  have hrest : ∀ x : Int, x = most.toNat → (most < 0 → x = 0) → (0 ≤ most → x = most) → Calls Tryd.prog 44 #[.pointer (some ⟨g, 0, none⟩), .int .u64 x] w fun en w' => en = .returned (.int .i64 n) ∧ CurAt w' g b q k ∧ Upd (· = g) w w' := by
    rintro x rfl _ _; exact HN.out
  have HR := Lib.hid hrest
  clear hrest HN
  have hfin : ∀ w1, CurAt w1 g b q k → Calls Tryd.prog 60 #[.pointer (some ⟨g, 0, none⟩), .int .i64 n] w1 fun en w' => en = .returned (.string (Pl.str (cBytes b.data.toList q k n).1)) ∧ CurAt w' g b (cBytes b.data.toList q k n).2.1 (cBytes b.data.toList q k n).2.2 ∧ Upd (· = g) w1 w' :=
    fun w1 h1 => cur_bytes g b q k n w1 h1 hbd2 hb (by omega)
  generalize cBytes b.data.toList q k n = s at *
  obtain ⟨s, q2, k2⟩ := s
  have HF := Lib.hid hfin
  clear hfin
  simp only at HU
  by_cases hneg : most < 0
  all_goals
    go_enter Tryd.func65, Tryd.ntmps65
    go_wp2_with fail
    refine (HR.out _ (by omega) (by omega) (by omega)).mono ?_
    rintro en w1 ⟨rfl, hq, hu⟩
    have HQ := Lib.hid hq
    clear hq
    go_wp2_with fail
    refine (HF.out w1 HQ.out).mono ?_
    rintro en w2 ⟨rfl, hq2, hu2⟩
    have c2 := hq2.cell2
    have c3 := hq2.cell1
    have f1 := hq2.froz 1
    have HQ2 := Lib.hid hq2
    have HUU := Lib.hid (hu.trans hu2)
    clear hq2 hu hu2
    by_cases hk : k2 = 0
    · subst hk
      rw [errV_zero] at c2
      have HU2 : Hid (cText b.data.toList p e most.toNat = (s, q2, 0)) := by unfold Hid; rw [HU.out, if_neg (by simp)]
      go_wp2
      go_ret
      rw [HU2.out]
      exact ⟨rfl, HQ2.out, HUU.out⟩
    · have HU2 : Hid (cText b.data.toList p e most.toNat = ([], p, k2)) := by unfold Hid; rw [HU.out, if_pos hk]
      rw [errV_ne hk] at c2
      clear hk
      go_wp2
      go_ret
      rw [HU2.out]
      exact ⟨rfl, HQ2.out.set1 p, HUU.out.set (.inl rfl) 1 _⟩

def cByte (l : Pl.Bytes) (p : Nat) (e : Int) : Nat × Nat × Int :=
  if e ≠ 0 then (0, p, e) else if p < l.length then ((l.getD p 0).toNat, p + 1, 0) else (0, p, 2)
set_option maxRecDepth 100000 in
theorem cur_byte (g : Nat) (b : ByteArray) (p : Nat) (e : Int) (w : World) (h : CurAt w g b p e) (h1 : p ≤ b.size) (hb : b.size ≤ 140737488355328) :
    Calls Tryd.prog 39 #[.pointer (some ⟨g, 0, none⟩)] w fun en w' => en = .returned (.int .u8 (cByte b.data.toList p e).1) ∧ CurAt w' g b (cByte b.data.toList p e).2.1 (cByte b.data.toList p e).2.2 ∧ Upd (· = g) w w' := by
  have hsz : b.data.toList.length = b.size := by simp
  have HN := Lib.hid (cur_bytes g b p e 1 w h h1 hb (by omega))
  clear h
  by_cases hc : e = 0 ∧ p < b.size
  · obtain ⟨rfl, hp⟩ := hc
    have HB : Hid (cBytes b.data.toList p 0 1 = ([b.data.toList.getD p 0], p + 1, 0)) := by
      unfold Hid
      rw [show (1 : Int) = ((1 : Nat) : Int) from rfl, cBytes_ok (by omega), List.drop_eq_getElem_cons (by omega)]
      simp [hp]
    have HU : Hid (cByte b.data.toList p 0 = ((b.data.toList.getD p 0).toNat, p + 1, 0)) := by unfold Hid cByte; rw [if_neg (by simp), if_pos (by omega)]
    rw [HB.out] at HN
    generalize b.data.toList.getD p 0 = c at *
    go_enter Tryd.func39, Tryd.ntmps39
    go_wp2_with fail
    refine HN.out.mono ?_
    rintro en w1 ⟨rfl, hq, hu⟩
    have HQ := Lib.hid hq
    clear hq
    have hs : (Pl.str [c]).size = 1 := rfl
    have hne : (Pl.str [c]).toList.isEmpty = false := by simp [Pl.str]
    go_wp2
    go_ret
    rw [HU.out]
    exact ⟨rfl, HQ.out, hu⟩
  · have HB : Hid (cBytes b.data.toList p e 1 = ([], p, if e ≠ 0 then e else 2)) := by
      unfold Hid cBytes
      by_cases he : e = 0
      · subst he; rw [if_neg (by simp), if_neg (by decide), if_pos (by omega)]; simp
      · rw [if_pos he, if_pos he]
    have HU : Hid (cByte b.data.toList p e = (0, p, if e ≠ 0 then e else 2)) := by
      unfold Hid cByte
      by_cases he : e = 0
      · subst he; rw [if_neg (by simp), if_neg (by omega)]; simp
      · rw [if_pos he, if_pos he]
    rw [HB.out] at HN
    generalize (if e ≠ 0 then e else 2) = k2 at *
    go_enter Tryd.func39, Tryd.ntmps39
    go_wp2_with fail
    refine HN.out.mono ?_
    rintro en w1 ⟨rfl, hq, hu⟩
    have HQ := Lib.hid hq
    clear hq
    have hne : (Pl.str []).toList.isEmpty = true := by simp [Pl.str]
    go_wp2
    go_ret
    rw [HU.out]
    exact ⟨rfl, HQ.out, hu⟩

set_option maxRecDepth 100000 in
theorem cur_new (b : ByteArray) (w : World) :
    Calls Tryd.prog 38 #[.string b] w fun en w' => en = .returned (.pointer (some ⟨w.heap.size, 0, none⟩)) ∧ CurAt w' w.heap.size b 0 0 ∧ Below w.heap.size w w' ∧ w'.heap.size = w.heap.size + 1 := by
  go_enter Tryd.func38, Tryd.ntmps38
  go_wp2
  go_ret
  exact ⟨rfl, by unfold CurAt; show (w.heap.push _)[w.heap.size]? = _; simp [errV_zero], (Below.refl _ _).alloc (Nat.le_refl _) _, by simp⟩
end Go.Proofs.YtdejljgoebcmpaaDoor
/- frame. -/
namespace Go.Proofs.YtdejljgoebcmpaaDoor
open Go.RowKit

theorem bcell {W w1 : World} (hb : Below W.heap.size W w1) : (∀ b o, b < W.heap.size → w1.cell? ⟨b, o, none⟩ = W.cell? ⟨b, o, none⟩) ∧ (∀ b o, b < W.heap.size → w1.frozen? ⟨b, o, none⟩ = W.frozen? ⟨b, o, none⟩) :=
  ⟨fun b o h => hb.cell (p := ⟨b, o, none⟩) h, fun b o h => hb.frozen (p := ⟨b, o, none⟩) h⟩
/-- Sections that are read. -/
def RSecs (w : World) (A : Option Addr) (l : List Pl.Sec) : Prop :=
  0 < l.length → ∃ ad, A = some ad ∧ ∀ j (h : j < l.length), w.cell? (ad.add (j * 2)) = some (.int .i64 l[j].id) ∧ w.cell? ⟨(ad.add (j * 2)).block, (ad.add (j * 2)).off + 1, none⟩ = some (.string (Pl.str l[j].pay))
theorem RSecs.below {w w' : World} {A : Option Addr} {l : List Pl.Sec} (h : RSecs w A l) (hb : Below w.heap.size w w') : RSecs w' A l := by
  intro hl
  obtain ⟨ad, e, hc⟩ := h hl
  refine ⟨ad, e, fun j hj => ?_⟩
  obtain ⟨h1, h2⟩ := hc j hj
  exact ⟨(hb.cell (World.block_lt_of_cell? w _ h1)).trans h1, (hb.cell (World.block_lt_of_cell? w _ h2)).trans h2⟩

theorem frame_len (m : ByteArray) (v : Nat) (l : List Pl.Sec) (k : Nat) (h : (l.take k).all (fun s => s.pay.length ≤ 16777216) = true) :
    ((m.data.toList ++ [UInt8.ofNat v]) ++ (l.take k).flatMap Pl.secBytes).length ≤ m.size + 1 + k * 16777231 := by
  have : ∀ (l : List Pl.Sec), l.all (fun s => s.pay.length ≤ 16777216) = true → (l.flatMap Pl.secBytes).length ≤ l.length * 16777231 := by
    intro l
    induction l with
    | nil => intro _; simp
    | cons s l ih =>
      intro h
      simp only [List.all_cons, Bool.and_eq_true, decide_eq_true_eq] at h
      have := ih h.2
      have := Pl.secBytes_len s h.1
      simp only [List.flatMap_cons, List.length_append, List.length_cons]
      omega
  have h1 := this _ h
  have h2 : (l.take k).length ≤ k := List.length_take_le _ _
  have h3 : (l.take k).length * 16777231 ≤ k * 16777231 := Nat.mul_le_mul_right _ h2
  have h4 : m.data.toList.length = m.size := by simp
  simp only [List.length_append, List.length_cons, List.length_nil, h4]
  omega
/-- Within a section's round: its text, the builder, what was there. -/
structure SecS (w : World) (g : Nat) (L : Pl.Bytes) (p : ByteArray) (w' : World) : Prop where
  cell : w'.cell? ⟨g, 1, none⟩ = some (.string p)
  bld : Bld (fun k => False ∨ k = g) w.heap.size w.heap.size L w'
  bel : Below w.heap.size w w'
theorem keep_S {w w1 w2 : World} {g : Nat} {L : Pl.Bytes} {p : ByteArray} (h : SecS w g L p w1) (hb : Below w1.heap.size w1 w2) : SecS w g L p w2 :=
  ⟨(hb.cell (World.block_lt_of_cell? w1 _ h.cell)).trans h.cell, h.bld.below hb, h.bel.trans (hb.mono h.bel.size)⟩
theorem drew_S {w w1 : World} {g : Nat} {L : Pl.Bytes} {p : ByteArray} (h : SecS w g L p w1) : SecS w g L p w1.drew := ⟨h.cell, h.bld, h.bel.drew⟩
structure AnyS (w : World) (g : Nat) (p : ByteArray) (w' : World) : Prop where
  out : ∃ L, SecS w g L p w'
theorem put_S {w w1 w2 : World} {g : Nat} {L L' : Pl.Bytes} {p : ByteArray} (h : SecS w g L p w1) (hB : Bld (fun k => False ∨ k = g) w.heap.size w.heap.size L' w2) (hb : BldU (fun k => False ∨ k = g) w.heap.size w1 w2) : SecS w g L' p w2 :=
  ⟨(World.cell?_of_block (w := w1) (hb.block g (World.block_lt_of_cell? w1 _ h.cell) (fun h => h.2 (.inr rfl)))).trans h.cell, hB, BldU.below h.bel hb h.bel.size⟩
set_option maxHeartbeats 1000000 in
set_option maxRecDepth 100000 in
theorem frame_put (m : ByteArray) (v : Nat) (A : Option Addr) (c : Nat) (l : List Pl.Sec) (w : World) (hr : RSecs w A l) (hm : m.size = 4) (hv : 1 ≤ v ∧ v ≤ 255) (hl : l.length ≤ 8) (hid : ∀ s ∈ l, 1 ≤ s.id ∧ s.id ≤ 255) (hsz : ∀ s ∈ l, s.pay.length ≤ 140737488355328) :
    Calls Tryd.prog 19 #[.string m, .int .i64 v, .slice A l.length c] w fun en w' => en = .returned (.tuple #[.string (Pl.str (Pl.framePut m.data.toList v l).1), .int .i64 (Pl.framePut m.data.toList v l).2]) ∧ Below w.heap.size w w' := by
  have hm1 : ((m.size : Int) != 4) = false := by rw [bne_eq_false_iff_eq]; omega
  have hm2 : (m.size != 4) = false := by rw [bne_eq_false_iff_eq]; omega
  have hv1 := hv.1
  have hv2 := hv.2
  have hv3 : decide ((v : Int) < 1) = false := decide_eq_false (by omega)
  have hv4 : decide ((255 : Int) < v) = false := decide_eq_false (by omega)
  have hl1 : decide ((8 : Int) < l.length) = false := decide_eq_false (by omega)
  have hl2 : decide (8 < l.length) = false := decide_eq_false (by omega)
  go_enter Tryd.func19, Tryd.ntmps19
  go_wp2_with fail
  refine (bld_str _ w.heap.size w.heap.size [] m _ (bld_new w) (by simp; omega)).mono ?_
  rintro en w1 ⟨rfl, hB1, hb1⟩
  have hb1' : Below w.heap.size w w1 := BldU.below ((Below.refl _ _).alloc (Nat.le_refl _) _) hb1 (by simp)
  have HB1 := Lib.hid hB1
  clear hB1 hb1
  go_wp2_with fail
  have hz1 := hb1'.size
  refine (bld_byte _ w.heap.size w.heap.size _ v _ HB1.out (by simp; omega) (by omega) (by omega)).mono ?_
  rintro en w2 ⟨rfl, hB2, hb2⟩
  have hb2' : Below w.heap.size w w2 := BldU.below hb1' hb2 hz1
  have HB2 := Lib.hid hB2
  clear hB2 hb2 hb1' HB1 hz1
  go_wp2_with fail
  have hu48 := Tryd.underlying48
  go_loopw [33] (fun i wr => ∃ k : Nat, k ≤ l.length ∧ i = .int .i64 k ∧ Hid (Bld (fun _ => False) w.heap.size w.heap.size ((m.data.toList ++ [UInt8.ofNat v]) ++ (l.take k).flatMap Pl.secBytes) wr) ∧ Below w.heap.size w wr ∧ Hid ((l.take k).all (fun s => s.pay.length ≤ 16777216) = true)) (fun i _ => l.length - (intOf i).toNat)
  case atStart => exact ⟨0, by omega, rfl, by simpa [Hid] using HB2.out, hb2', rfl⟩
  case round =>
    clear HB2 hb2'
    obtain ⟨k, hk, rfl, hB, hb, hall⟩ := hrel
    have hz := hb.size
    by_cases hlt : k < l.length
    · obtain ⟨ad, rfl, hcs⟩ := (hr.below hb) (by omega)
      obtain ⟨c0, c1⟩ := hcs k hlt
      have hids := hid l[k] (List.getElem_mem hlt)
      have hszs := hsz l[k] (List.getElem_mem hlt)
      have HT : Hid (l.take (k + 1) = l.take k ++ [l[k]]) := List.take_succ_eq_append_getElem hlt
      have HM := Lib.hid (List.getElem_mem hlt)
      have hlen := frame_len m v l k hall.out
      generalize hs : l[k] = s at *
      have HS := Lib.hid hs
      clear hcs hs
      obtain ⟨hid1, hid2⟩ := hids
      have t1 : decide (s.id < 1) = false := decide_eq_false (by omega)
      have t2 : decide (255 < s.id) = false := decide_eq_false (by omega)
      have hp : (Pl.str s.pay).size = s.pay.length := by simp [Pl.str, ByteArray.size]
      by_cases hbig : 16777216 < s.pay.length
      · have t3 : decide ((16777216 : Int) < (Pl.str s.pay).size) = true := decide_eq_true (by omega)
        have t4 : decide (16777216 < (Pl.str s.pay).size) = true := decide_eq_true (by omega)
        have HF : Hid (Pl.framePut m.data.toList v l = ([], 19)) := by
          unfold Hid Pl.framePut
          rw [if_neg]
          rw [List.all_eq_true]
          intro h
          have := h s HM.out
          simp at this; omega
        go_wp2
        go_ret2
        rw [HF.out]
        exact ⟨rfl, hb.alloc hz _⟩
      · have t3 : decide ((16777216 : Int) < (Pl.str s.pay).size) = false := decide_eq_false (by omega)
        have t4 : decide (16777216 < (Pl.str s.pay).size) = false := decide_eq_false (by omega)
        have hA := Bld.alloc hB.out #[.int .i64 s.id, .string (Pl.str s.pay)] 48 (by decide)
        go_wp2_with fail
        refine (bld_byte _ w.heap.size w.heap.size _ s.id _ hA (by omega) (by omega) (by omega)).mono ?_
        rintro en w3 ⟨rfl, hB3, hb3⟩
        have hE : (fun k => False ∨ k = wr.heap.size) wr.heap.size := .inr rfl
        have hg0 : wr.heap.size < (wr.alloc (.cells #[.int .i64 s.id, .string (Pl.str s.pay)] 48)).heap.size := by simp
        have hq : w3.heap[wr.heap.size]? = some (.cells #[.int .i64 s.id, .string (Pl.str s.pay)] 48 (0, 0)) := (hb3.block _ hg0 (fun h => h.2 hE)).trans (by show (wr.heap.push _)[wr.heap.size]? = _; simp)
        have d1 : w3.cell? ⟨wr.heap.size, 1, none⟩ = some (.string (Pl.str s.pay)) := by rw [Lib.cell_of_heap hq]; rfl
        have hz3 := hb3.size
        have hg3 : wr.heap.size < w3.heap.size := by omega
        have hb3' : Below w.heap.size w w3 := BldU.below (hb.alloc hz _) hb3 (by simp; omega)
        have hL3 : (m.data.toList ++ [UInt8.ofNat v] ++ (l.take k).flatMap Pl.secBytes ++ [UInt8.ofNat s.id.toNat]).length ≤ 200000000 := by
          rw [List.length_append]; simp only [List.length_cons, List.length_nil]; omega
        have HLE : Hid (m.data.toList ++ [UInt8.ofNat v] ++ (l.take (k + 1)).flatMap Pl.secBytes = (m.data.toList ++ [UInt8.ofNat v] ++ (l.take k).flatMap Pl.secBytes ++ [UInt8.ofNat s.id.toNat]) ++ (Pl.vPut s.pay.length ++ (s.pay ++ Pl.crcPut (Pl.crc s.pay)))) := by
          unfold Hid; rw [HT.out]; simp [Pl.secBytes]
        have HALL : Hid ((l.take (k + 1)).all (fun s => s.pay.length ≤ 16777216) = true) := by
          unfold Hid; rw [HT.out, List.all_append, hall.out]; simp; omega
        generalize m.data.toList ++ [UInt8.ofNat v] ++ (l.take k).flatMap Pl.secBytes ++ [UInt8.ofNat s.id.toNat] = L3 at *
        have HB3 : Hid (Bld (fun k => False ∨ k = wr.heap.size) w.heap.size w.heap.size L3 w3.drew) := hB3
        clear hB3 hb3 hA hq hg0 hz3 hB hb
        go_wp2_with fail
        have hv10 := Pl.vPut_len s.pay.length (by omega)
        have k1 := str_cat (Pl.vPut s.pay.length) s.pay (by omega)
        have k2 := str_cat (Pl.vPut s.pay.length ++ s.pay) (Pl.crcPut (Pl.crc s.pay)) (by simp [Pl.crcPut]; omega)
        have hlen4 : L3.length + (Pl.str (Pl.vPut s.pay.length ++ (s.pay ++ Pl.crcPut (Pl.crc s.pay)))).size ≤ 140737488355328 := by rw [str_size]; simp [Pl.crcPut]; omega
        have HL4 := Lib.hid hlen4
        clear hlen4
        have ew : IntKind.u64.wrap (s.pay.length : Int) = s.pay.length := Pl.wraps_u64 _ (by omega) (by omega)
        have HS3 : SecS w wr.heap.size L3 (Pl.str s.pay) w3 := ⟨d1, HB3.out, hb3'⟩
        have HH3 := drew_S HS3
        have HA3 : AnyS w wr.heap.size (Pl.str s.pay) w3.drew := ⟨⟨_, HH3⟩⟩
        clear HB3 hb3' HS3
        go_region_held3 (fun w' => w'.cell? ⟨wr.heap.size, 1, none⟩ = some (.string (Pl.str s.pay)) ∧ AnyS w wr.heap.size (Pl.str s.pay) w')
          (first | exact ⟨by assumption, by assumption⟩ | go_keep)
          (first | (go_at_call 17; refine (vput_any s.pay.length _ (by omega)).mono ?_; rintro en w4 ⟨rfl, hb4⟩; have hS4 := keep_S (by assumption) hb4; have d4 := hS4.cell; have hA4 : AnyS w wr.heap.size (Pl.str s.pay) _ := ⟨⟨_, hS4⟩⟩; clear hb4) | (go_at_call 36; refine (crc_sum_str s.pay _ (by omega)).mono ?_; rintro en w5 ⟨rfl, hb5⟩; have hS5 := keep_S (by assumption) hb5; have d5 := hS5.cell; have hA5 : AnyS w wr.heap.size (Pl.str s.pay) _ := ⟨⟨_, hS5⟩⟩; clear hb5) | (go_at_call 35; refine (crc_put _ _ (Pl.crc_lt _)).mono ?_; rintro en w6 ⟨rfl, hb6⟩; have hS6 := keep_S (by assumption) hb6; have d6 := hS6.cell; have hA6 : AnyS w wr.heap.size (Pl.str s.pay) _ := ⟨⟨_, hS6⟩⟩; clear hb6) | (go_at_call 16; have hSS : SecS w wr.heap.size L3 (Pl.str s.pay) _ := (by assumption); refine (bld_str _ _ _ _ _ _ hSS.bld HL4.out).mono ?_; rintro en w7 ⟨rfl, hB7, hb7⟩; have hS7 := put_S hSS hB7 hb7; have d7 := hS7.cell; have hA7 : AnyS w wr.heap.size (Pl.str s.pay) _ := ⟨⟨_, hS7⟩⟩; clear hB7 hb7))
        go_wp2
        go_roundw
        case rel => exact ⟨k + 1, by omega, by go_num, by unfold Hid; rw [HLE.out]; exact hS7.bld.less (fun _ h => h.elim), hS7.bel, HALL.out⟩
        case measure => simp [intOf]; omega
    · have HF : Hid (Pl.framePut m.data.toList v l = ((m.data.toList ++ [UInt8.ofNat v]) ++ (l.take k).flatMap Pl.secBytes, 0)) := by
        have ha := hall.out
        rw [List.take_of_length_le (by omega)] at ha
        unfold Hid Pl.framePut
        rw [if_pos ha, List.take_of_length_le (by omega)]
        simp [Pl.frameBytes]
      generalize (m.data.toList ++ [UInt8.ofNat v]) ++ (l.take k).flatMap Pl.secBytes = L at *
      go_wp2_with (go_at_call 20; refine (bld_string _ _ _ L _ hB.out hz).mono ?_; rintro en w4 ⟨rfl, hb4⟩)
      go_ret2
      rw [HF.out]
      exact ⟨rfl, hb.trans hb4⟩
end Go.Proofs.YtdejljgoebcmpaaDoor
/- oldfile.put. -/
namespace Go.Proofs.YtdejljgoebcmpaaDoor
open Go.RowKit

namespace Pl
/-- A node's record. -/
def nodeBytes (n : Node) : Bytes := vPut n.kind.toNat ++ n.ints.flatMap (fun x => vPut (zig x)) ++ n.texts.flatMap (fun t => vPut t.size ++ t.data.toList) ++ vPut n.kids.length ++ n.kids.flatMap (fun k => vPut k.toNat)
structure PutOk (n : Node) : Prop where
  kind : 0 ≤ n.kind ∧ n.kind ≤ 1000
  ints : ∀ x ∈ n.ints, -140737488355328 ≤ x ∧ x ≤ 140737488355328
  kids : ∀ x ∈ n.kids, 0 ≤ x ∧ x ≤ 1048576
  li : n.ints.length ≤ 1048576
  lt : n.texts.length ≤ 1048576
  lk : n.kids.length ≤ 1048576
  sz : ∀ t ∈ n.texts, t.size ≤ 1048576
theorem flatMap_take_len {α : Type} (f : α → Bytes) (B : Nat) (l : List α) (k : Nat) (h : ∀ x ∈ l, (f x).length ≤ B) : ((l.take k).flatMap f).length ≤ k * B := by
  induction l generalizing k with
  | nil => simp
  | cons x l ih =>
    cases k with
    | zero => simp
    | succ k =>
      rw [List.take_succ_cons, List.flatMap_cons, List.length_append, Nat.succ_mul]
      have := ih k (fun y hy => h y (List.mem_cons_of_mem _ hy))
      have := h x (by simp)
      omega
theorem flatMap_snoc {α : Type} (f : α → Bytes) (l : List α) (k : Nat) (h : k < l.length) : (l.take (k + 1)).flatMap f = (l.take k).flatMap f ++ f l[k] := by
  rw [List.take_succ_eq_append_getElem h, List.flatMap_append]; simp
end Pl
theorem str_size' (l : Pl.Bytes) : (Pl.str l).size = l.length := by simp [Pl.str, ByteArray.size]
theorem str_list (l : Pl.Bytes) : (Pl.str l).data.toList = l := by simp [Pl.str]

/-- Within oldfile.put: the node's box, the Builder. -/
structure PutS (w : World) (cs : Array Value) (L : Pl.Bytes) (w' : World) : Prop where
  row : w'.heap[w.heap.size]? = some (.cells cs 43 (0, 0))
  bld : Bld (fun _ => False) (w.heap.size + 1) (w.heap.size + 1) L w'
  bel : Below w.heap.size w w'
namespace PutS
variable {w w1 w2 : World} {cs : Array Value} {L L' : Pl.Bytes}
theorem start (w : World) (cs : Array Value) : PutS w cs [] ((w.alloc (.cells cs 43)).alloc (.cells #[.pointer none, .slice none 0 0] 55)) := by
  refine ⟨(Below.heap_alloc _ _ _ (by simp)).trans (heap_alloc_new w _), ?_, ((Below.refl _ _).alloc (Nat.le_refl _) _).alloc (by simp) _⟩
  have := bld_new (w.alloc (.cells cs 43))
  rwa [show (w.alloc (.cells cs 43)).heap.size = w.heap.size + 1 from by simp] at this
theorem step (h : PutS w cs L w1) (hb : Below w1.heap.size w1 w2) : PutS w cs L w2 := ⟨(hb.block _ (Array.getElem?_eq_some_iff.1 h.row).1).trans h.row, h.bld.below hb, h.bel.trans (hb.mono h.bel.size)⟩
theorem put (h : PutS w cs L w1) (hB : Bld (fun _ => False) (w.heap.size + 1) (w.heap.size + 1) L' w2) (hu : BldU (fun _ => False) (w.heap.size + 1) w1 w2) : PutS w cs L' w2 :=
  ⟨(hu.block _ (Array.getElem?_eq_some_iff.1 h.row).1 (fun h => by have := h.1; omega)).trans h.row, hB, Upd.below h.bel hu h.bel.size (fun i hi => by have := hi.1; omega)⟩
theorem hz (h : PutS w cs L w1) : w.heap.size + 1 ≤ w1.heap.size := (Array.getElem?_eq_some_iff.1 h.row).1
/-- WriteString. -/
theorem write (h : PutS w cs L w1) (s : ByteArray) (hl : L.length + s.size ≤ 140737488355328) : Calls Tryd.prog 16 #[.pointer (some ⟨w.heap.size + 1, 0, none⟩), .string s] w1 fun en w' => en = .returned (.tuple #[.int .i64 s.size, .nilIface]) ∧ PutS w cs (L ++ s.data.toList) w' :=
  (bld_str _ _ _ L s w1 h.bld hl).mono fun en w' ⟨h1, h2, h3⟩ => ⟨h1, h.put h2 h3⟩
end PutS

set_option maxHeartbeats 4000000 in
set_option maxRecDepth 100000 in
theorem of_put (n : Pl.Node) (vi vt vk : Value) (w : World) (hi : RNums w vi n.ints) (ht : RStrs w vt n.texts) (hk : RNums w vk n.kids) (ho : Pl.PutOk n) :
    Calls Tryd.prog 18 #[.agg #[.int .i64 n.kind, vi, vt, vk]] w fun en w' => en = .returned (.string (Pl.str (Pl.nodeBytes n))) ∧ Below w.heap.size w w' := by
  obtain ⟨kind, ints, texts, kids⟩ := n
  obtain ⟨kd, rfl⟩ : ∃ kd : Nat, kind = kd := ⟨kind.toNat, by have := ho.kind.1; simp only at this; omega⟩
  have hk2 := ho.kind.2
  have hl1 := ho.li
  have hl2 := ho.lt
  have hl3 := ho.lk
  have ho1 := ho.ints
  have ho2 := ho.kids
  have ho3 := ho.sz
  simp only at hi ht hk hk2 hl1 hl2 hl3 ho1 ho2 ho3 ⊢
  have HI := Lib.hid hi
  have HT := Lib.hid ht
  have HK := Lib.hid hk
  have HO1 := Lib.hid ho1
  have HO2 := Lib.hid ho2
  have HO3 := Lib.hid ho3
  obtain ⟨IA, ic, rfl, _⟩ := hi
  obtain ⟨TA, tc, rfl, _⟩ := ht
  obtain ⟨KA, kc, rfl, _⟩ := hk
  have HS0 := Lib.hid (PutS.start w #[.int .i64 kd, .slice IA ints.length ic, .slice TA texts.length tc, .slice KA kids.length kc])
  have HV : Hid (∀ (m : Nat) (w : World), m < 18446744073709551616 → Calls Tryd.prog 17 #[.int .u64 m] w fun en w' => en = .returned (.string (Pl.str (Pl.vPut m))) ∧ Below w.heap.size w w') := fun m w h => vput_any m w h
  have HL : Hid (∀ m : Nat, m < 18446744073709551616 → (Pl.vPut m).length ≤ 10) := fun m h => Pl.vPut_len m (by omega)
  have ew : IntKind.u64.wrap (kd : Int) = kd := Pl.wraps_u64 _ (by omega) (by omega)
  clear ho ho1 ho2 ho3
  go_enter Tryd.func18, Tryd.ntmps18
  go_wp2_with fail
  refine (HV.out kd _ (by omega)).mono ?_
  rintro en w1 ⟨rfl, hb1⟩
  have HS1 := Lib.hid (HS0.out.step hb1)
  clear hb1 HS0
  go_wp2_with fail
  refine (HS1.out.write (Pl.str (Pl.vPut kd)) (by rw [str_size']; have := HL.out kd (by omega); simp; omega)).mono ?_
  rintro en w2 ⟨rfl, hS2⟩
  rw [str_list, List.nil_append] at hS2
  have HS2 := Lib.hid hS2
  clear hS2 HS1
  obtain ⟨a0, a1, a2, a3⟩ := cells4 HS2.out.row
  go_wp2_with fail
  clear a0 a1 a2 a3
  go_loopw [18] (fun i wr => ∃ k : Nat, k ≤ ints.length ∧ i = .int .i64 k ∧ Hid (PutS w #[.int .i64 kd, .slice IA ints.length ic, .slice TA texts.length tc, .slice KA kids.length kc] (Pl.vPut kd ++ (ints.take k).flatMap (fun x => Pl.vPut (Pl.zig x))) wr)) (fun i _ => ints.length - (intOf i).toNat)
  case atStart => exact ⟨0, by omega, rfl, by simpa [Hid] using HS2.out⟩
  case round =>
    clear HS2
    obtain ⟨k, hk, rfl, hS⟩ := hrel
    by_cases hlt : k < ints.length
    · obtain ⟨_, _, hve, hcc⟩ := HI.out.below hS.out.bel
      cases hve
      obtain ⟨ad, rfl, hca⟩ := hcc (by omega)
      have e1 := hca k hlt
      have tl : decide ((k : Int) < ints.length) = true := decide_eq_true (by omega)
      have hbd := HO1.out _ (List.getElem_mem hlt)
      have hsn := Lib.hid (Pl.flatMap_snoc (fun x => Pl.vPut (Pl.zig x)) ints k hlt)
      have hfl := Pl.flatMap_take_len (fun x => Pl.vPut (Pl.zig x)) 10 ints k (fun x hx => HL.out _ (by have := HO1.out x hx; have := Pl.zig_lt x (by omega) (by omega); omega))
      have hkd := HL.out kd (by omega)
      have HFl : Hid ((Pl.vPut kd ++ (ints.take k).flatMap (fun x => Pl.vPut (Pl.zig x))).length + 10 ≤ 140737488355328) := by unfold Hid; rw [List.length_append]; omega
      clear hca hcc hfl hkd
      generalize ints[k] = x at *
      have hz := Pl.zig_lt x (by omega) (by omega)
      have HZ := Lib.hid (fun w => zig_any x w (by omega) (by omega))
      have HZ2 := Lib.hid hz
      generalize Pl.zig x = z at *
      clear hbd hz
      go_wp2_with fail
      refine (HZ.out _).mono ?_
      rintro en w3 ⟨rfl, rfl⟩
      go_wp2_with fail
      refine (HV.out z _ HZ2.out).mono ?_
      rintro en w4 ⟨rfl, hb4⟩
      have HS4 := Lib.hid (hS.out.step hb4)
      clear hb4 e1 hS
      go_wp2_with fail
      refine (HS4.out.write (Pl.str (Pl.vPut z)) (by rw [str_size']; have := HL.out z HZ2.out; have := HFl.out; omega)).mono ?_
      rintro en w5 ⟨rfl, hS5⟩
      rw [str_list] at hS5
      have HS5 := Lib.hid hS5
      clear hS5 HS4
      go_wp2_with fail
      go_roundw
      case rel => exact ⟨k + 1, by omega, by go_num, by unfold Hid; rw [hsn.out, ← List.append_assoc]; exact HS5.out⟩
      case measure => simp [intOf]; omega
    · obtain rfl : k = ints.length := by omega
      have hS0 := hS.out
      rw [List.take_length] at hS0
      have HS0 := Lib.hid hS0
      have HFl : Hid ((Pl.vPut kd ++ ints.flatMap (fun x => Pl.vPut (Pl.zig x))).length ≤ 20000000) := by
        have hfl := Pl.flatMap_take_len (fun x => Pl.vPut (Pl.zig x)) 10 ints ints.length (fun x hx => HL.out _ (by have := HO1.out x hx; have := Pl.zig_lt x (by omega) (by omega); omega))
        have hkd := HL.out kd (by omega)
        rw [List.take_length] at hfl
        unfold Hid; rw [List.length_append]; omega
      obtain ⟨L0, hL0⟩ : ∃ L0, L0 = Pl.vPut kd ++ ints.flatMap (fun x => Pl.vPut (Pl.zig x)) := ⟨_, rfl⟩
      rw [← hL0] at HS0 HFl
      have HL0 := Lib.hid hL0
      obtain ⟨a0, a1, a2, a3⟩ := cells4 HS0.out.row
      clear hS hS0 hL0
      go_wp2_with fail
      clear a0 a1 a2 a3
      go_loopw [30] (fun i wr => ∃ k : Nat, k ≤ texts.length ∧ i = .int .i64 k ∧ Hid (PutS w #[.int .i64 kd, .slice IA ints.length ic, .slice TA texts.length tc, .slice KA kids.length kc] (L0 ++ (texts.take k).flatMap (fun t => Pl.vPut t.size ++ t.data.toList)) wr)) (fun i _ => texts.length - (intOf i).toNat)
      case atStart => exact ⟨0, by omega, rfl, by simpa [Hid] using HS0.out⟩
      case round =>
        clear HS0
        obtain ⟨k, hk, rfl, hS⟩ := hrel
        have hfl0 := Pl.flatMap_take_len (fun t : ByteArray => Pl.vPut t.size ++ t.data.toList) 1048586 texts k (fun t ht => by
          have h1 := HO3.out t ht
          have h2 := HL.out t.size (by omega)
          rw [List.length_append]
          have : t.data.toList.length = t.size := by simp
          omega)
        by_cases hlt : k < texts.length
        · obtain ⟨_, _, hve, hcc⟩ := HT.out.below hS.out.bel
          cases hve
          obtain ⟨ad, rfl, hca⟩ := hcc (by omega)
          have e1 := hca k hlt
          have tl : decide ((k : Int) < texts.length) = true := decide_eq_true (by omega)
          have hbd := HO3.out _ (List.getElem_mem hlt)
          have hsn := Lib.hid (Pl.flatMap_snoc (fun t : ByteArray => Pl.vPut t.size ++ t.data.toList) texts k hlt)
          have HFl : Hid ((L0 ++ (texts.take k).flatMap (fun t : ByteArray => Pl.vPut t.size ++ t.data.toList)).length + 1048586 ≤ 140737488355328) := by
            have := HFl.out
            have h2 : k * 1048586 ≤ 1048576 * 1048586 := Nat.mul_le_mul_right _ (by omega)
            unfold Hid; rw [List.length_append]; omega
          clear hca hcc hfl0
          generalize texts[k] = x at *
          have hvl := HL.out x.size (by omega)
          have hxl : x.data.toList.length = x.size := by simp
          have hcat : Op.stringOp .add (Pl.str (Pl.vPut x.size)) x = pure (.string (Pl.str (Pl.vPut x.size ++ x.data.toList))) := by
            have := str_cat (Pl.vPut x.size) x.data.toList (by omega)
            rwa [str_data] at this
          have ewx : IntKind.u64.wrap (x.size : Int) = x.size := Pl.wraps_u64 _ (by omega) (by omega)
          have HWl : Hid ((L0 ++ (texts.take k).flatMap (fun t : ByteArray => Pl.vPut t.size ++ t.data.toList)).length + (Pl.str (Pl.vPut x.size ++ x.data.toList)).size ≤ 140737488355328) := by
            have := HFl.out
            unfold Hid; rw [str_size', show (Pl.vPut x.size ++ x.data.toList).length = (Pl.vPut x.size).length + x.data.toList.length from List.length_append]; omega
          have HX : Hid (x.size < 18446744073709551616) := by unfold Hid; omega
          clear hvl hxl
          go_wp2_with fail
          refine (HV.out x.size _ HX.out).mono ?_
          rintro en w4 ⟨rfl, hb4⟩
          have HS4 := Lib.hid (hS.out.step hb4)
          clear hb4 e1 hS
          go_wp2_with fail
          refine (HS4.out.write (Pl.str (Pl.vPut x.size ++ x.data.toList)) HWl.out).mono ?_
          rintro en w5 ⟨rfl, hS5⟩
          rw [str_list] at hS5
          have HS5 := Lib.hid hS5
          clear hS5 HS4
          go_wp2_with fail
          go_roundw
          case rel => exact ⟨k + 1, by omega, by go_num, by unfold Hid; rw [hsn.out, ← List.append_assoc]; exact HS5.out⟩
          case measure => simp [intOf]; omega
        · obtain rfl : k = texts.length := by omega
          have hS0 := hS.out
          rw [List.take_length] at hS0 hfl0
          have HS0 := Lib.hid hS0
          have HFl1 : Hid ((L0 ++ texts.flatMap (fun t : ByteArray => Pl.vPut t.size ++ t.data.toList)).length ≤ 2000000000000) := by
            have := HFl.out
            have h2 : texts.length * 1048586 ≤ 1048576 * 1048586 := Nat.mul_le_mul_right _ (by omega)
            unfold Hid; rw [List.length_append]; omega
          obtain ⟨L1, hL1⟩ : ∃ L1, L1 = L0 ++ texts.flatMap (fun t : ByteArray => Pl.vPut t.size ++ t.data.toList) := ⟨_, rfl⟩
          rw [← hL1] at HS0 HFl1
          have HL1 := Lib.hid hL1
          obtain ⟨a0, a1, a2, a3⟩ := cells4 HS0.out.row
          have ewk : IntKind.u64.wrap (kids.length : Int) = kids.length := Pl.wraps_u64 _ (by omega) (by omega)
          clear hS hS0 hL1 hfl0
          go_wp2_with fail
          refine (HV.out kids.length _ (by omega)).mono ?_
          rintro en w6 ⟨rfl, hb6⟩
          have HS6 := Lib.hid (HS0.out.step hb6)
          clear hb6 HS0 a0 a1 a2 a3
          go_wp2_with fail
          refine (HS6.out.write (Pl.str (Pl.vPut kids.length)) (by rw [str_size']; have := HL.out kids.length (by omega); have := HFl1.out; omega)).mono ?_
          rintro en w7 ⟨rfl, hS7⟩
          rw [str_list] at hS7
          have HS7 := Lib.hid hS7
          have HFl2 : Hid ((L1 ++ Pl.vPut kids.length).length ≤ 2000000000010) := by
            have h1 := HL.out kids.length (by omega)
            have h2 := HFl1.out
            unfold Hid; rw [List.length_append]; omega
          clear hS7 HS6
          obtain ⟨a0, a1, a2, a3⟩ := cells4 HS7.out.row
          go_wp2_with fail
          clear a0 a1 a2 a3
          go_loopw [51] (fun i wr => ∃ k : Nat, k ≤ kids.length ∧ i = .int .i64 k ∧ Hid (PutS w #[.int .i64 kd, .slice IA ints.length ic, .slice TA texts.length tc, .slice KA kids.length kc] (L1 ++ Pl.vPut kids.length ++ (kids.take k).flatMap (fun x => Pl.vPut x.toNat)) wr)) (fun i _ => kids.length - (intOf i).toNat)
          case atStart => exact ⟨0, by omega, rfl, by simpa [Hid] using HS7.out⟩
          case round =>
            clear HS7
            obtain ⟨k, hk, rfl, hS⟩ := hrel
            have hfl0 := Pl.flatMap_take_len (fun x : Int => Pl.vPut x.toNat) 10 kids k (fun x hx => HL.out _ (by have := HO2.out x hx; omega))
            by_cases hlt : k < kids.length
            · obtain ⟨_, _, hve, hcc⟩ := HK.out.below hS.out.bel
              cases hve
              obtain ⟨ad, rfl, hca⟩ := hcc (by omega)
              have e1 := hca k hlt
              have tl : decide ((k : Int) < kids.length) = true := decide_eq_true (by omega)
              have hbd := HO2.out _ (List.getElem_mem hlt)
              have hsn := Lib.hid (Pl.flatMap_snoc (fun x : Int => Pl.vPut x.toNat) kids k hlt)
              have HFl : Hid ((L1 ++ Pl.vPut kids.length ++ (kids.take k).flatMap (fun x : Int => Pl.vPut x.toNat)).length + 10 ≤ 140737488355328) := by
                have := HFl2.out
                unfold Hid; rw [List.length_append]; omega
              clear hca hcc hfl0
              generalize kids[k] = x at *
              obtain ⟨xn, rfl⟩ : ∃ xn : Nat, x = xn := ⟨x.toNat, by omega⟩
              rw [Int.toNat_natCast] at hsn
              have ewx : IntKind.u64.wrap (xn : Int) = xn := Pl.wraps_u64 _ (by omega) (by omega)
              have HX : Hid (xn < 18446744073709551616) := by unfold Hid; omega
              go_wp2_with fail
              refine (HV.out xn _ HX.out).mono ?_
              rintro en w4 ⟨rfl, hb4⟩
              have HS4 := Lib.hid (hS.out.step hb4)
              clear hb4 e1 hS
              go_wp2_with fail
              refine (HS4.out.write (Pl.str (Pl.vPut xn)) (by rw [str_size']; have := HL.out xn HX.out; have := HFl.out; omega)).mono ?_
              rintro en w5 ⟨rfl, hS5⟩
              rw [str_list] at hS5
              have HS5 := Lib.hid hS5
              clear hS5 HS4
              go_wp2_with fail
              go_roundw
              case rel => exact ⟨k + 1, by omega, by go_num, by unfold Hid; rw [hsn.out, ← List.append_assoc]; exact HS5.out⟩
              case measure => simp [intOf]; omega
            · obtain rfl : k = kids.length := by omega
              have hS0 := hS.out
              rw [List.take_length] at hS0
              have HS0 := Lib.hid hS0
              have HF : Hid (L1 ++ Pl.vPut kids.length ++ kids.flatMap (fun x => Pl.vPut x.toNat) = Pl.nodeBytes ⟨kd, ints, texts, kids⟩) := by
                unfold Hid Pl.nodeBytes
                rw [HL1.out, HL0.out]
                simp
              clear hS hS0 hfl0
              go_wp2_with fail
              refine (bld_string _ _ _ _ _ HS0.out.bld HS0.out.hz).mono ?_
              rintro en w8 ⟨rfl, hb8⟩
              have hB8 : Hid (Below w.heap.size w w8) := HS0.out.bel.trans (hb8.mono (Nat.le_succ _))
              clear hb8
              go_wp2_with fail
              go_ret
              exact ⟨ret_str (by rw [← HF.out, List.append_assoc]), hB8.out⟩
end Go.Proofs.YtdejljgoebcmpaaDoor
/- oldfile.Save. -/
namespace Go.Proofs.YtdejljgoebcmpaaDoor
open Go.RowKit

namespace Pl
def mag : Bytes := [68, 73, 79, 82]
def recBytes (l : List Node) : Bytes := vPut l.length ++ l.flatMap nodeBytes
def oldFile (l : List Node) : Bytes × Int := framePut mag 1 [⟨1, recBytes l⟩]
/-- A scene's file of version 1; the error. -/
noncomputable def oldSave (s : Scene) (l : Lim) : Bytes × Int :=
  if (oldValid s l).1 ≠ 0 then ([], (oldValid s l).1) else if oldIs s = false then ([], 16)
  else if (oldFile s.nodes).2 ≠ 0 ∨ l.b < ((oldFile s.nodes).1.length : Int) then ([], 19) else ((oldFile s.nodes).1, 0)
theorem typed_ok {sp : Int → Option Spec} {l : List Node} {i : Nat} (h : (typed sp l i).1 = 0) : ∀ n ∈ l, ∃ s, sp n.kind = some s ∧ fieldErr n.ints n.texts n.kids.length s = 0 := by
  induction l generalizing i with
  | nil => simp
  | cons n l ih =>
    rw [typed_cons] at h
    cases hs : sp n.kind with
    | none => rw [hs] at h; simp at h
    | some s =>
      rw [hs] at h
      simp only at h
      by_cases he : fieldErr n.ints n.texts n.kids.length s = 0
      · rw [if_pos he] at h
        intro m hm
        rcases List.mem_cons.1 hm with rfl | hm
        · exact ⟨s, hs, he⟩
        · exact ih h m hm
      · rw [if_neg he] at h; exact absurd h he
/-- What a node of a kind has. -/
structure Fits (n : Node) (s : Spec) : Prop where
  ints : n.ints.length = s.ints.length
  inc : ∀ j, j < n.ints.length → inC (s.ints.getD j 0) (n.ints.getD j 0) = true
  texts : n.texts.length = s.texts
  utf : ¬ 0 ≤ idxBad n.texts 0
  least : (s.least : Int) ≤ n.kids.length
  most : ¬ (0 ≤ s.most ∧ s.most < n.kids.length)
theorem fieldErr_zero {n : Node} {s : Spec} (h : fieldErr n.ints n.texts n.kids.length s = 0) : Fits n s := by
  unfold fieldErr at h
  by_cases h1 : nums n.ints s.ints = false
  · rw [if_pos h1] at h; simp at h
  · rw [if_neg h1] at h
    by_cases h2 : n.texts.length ≠ s.texts ∨ 0 ≤ idxBad n.texts 0
    · rw [if_pos h2] at h; simp at h
    · rw [if_neg h2] at h
      by_cases h3 : (n.kids.length : Int) < s.least ∨ (0 ≤ s.most ∧ s.most < n.kids.length)
      · rw [if_pos h3] at h; simp at h
      · have h4 := of_decide_eq_true (Bool.not_eq_false _ ▸ h1 : nums n.ints s.ints = true)
        exact ⟨h4.1, h4.2, by simpa using fun e => h2 (.inl e), fun e => h2 (.inr e), by omega, fun e => h3 (.inr e)⟩
theorem inC_bd {c n : Int} (hc : c = 2 ∨ c = 3 ∨ c = 4 ∨ c = 5) (h : inC c n = true) : -140737488355328 ≤ n ∧ n ≤ 140737488355328 := by
  unfold inC at h
  rcases hc with rfl | rfl | rfl | rfl
  · simpa using h
  · have : 0 ≤ n ∧ n ≤ 140737488355328 := by simpa using h
    omega
  · have : 0 ≤ n ∧ n ≤ 255 := by simpa using h
    omega
  · have : n = 0 ∨ n = 1 := by simpa using h
    omega
theorem oldSpec_some {k : Int} {s : Spec} (h : oldSpec k = some s) : (1 ≤ k ∧ k ≤ 6) ∧ s.ints.length ≤ 4 ∧ s.texts ≤ 1 ∧ (∀ c ∈ s.ints, c = 2 ∨ c = 3 ∨ c = 4 ∨ c = 5) := by
  unfold oldSpec at h
  repeat' split at h
  all_goals first | (cases h; refine ⟨by omega, by simp, by simp, by simp⟩) | cases h
theorem putOk_of {l : List Node} (hs : Sm l) (hr : Refs l) (ht : (typed oldSpec l 0).1 = 0) : ∀ n ∈ l, PutOk n ∧ n.ints.length ≤ 4 ∧ n.texts.length ≤ 1 := by
  intro n hn
  obtain ⟨s, h1, h2⟩ := typed_ok ht n hn
  have hf := fieldErr_zero h2
  obtain ⟨hk, hi, htx, hc⟩ := oldSpec_some h1
  refine ⟨⟨by omega, fun x hx => ?_, fun x hx => ?_, hs.ints n hn, hs.texts n hn, hs.kids n hn, hs.size n hn⟩, by rw [hf.ints]; exact hi, by rw [hf.texts]; exact htx⟩
  · obtain ⟨j, hj, rfl⟩ := List.getElem_of_mem hx
    have h3 := hf.inc j hj
    have hjs : j < s.ints.length := by rw [← hf.ints]; exact hj
    rw [List.getD_eq_getElem?_getD, List.getD_eq_getElem?_getD, List.getElem?_eq_getElem hj, List.getElem?_eq_getElem hjs] at h3
    exact inC_bd (hc _ (List.getElem_mem hjs)) h3
  · have := hr n hn x hx
    unfold isPlace at this
    have := hs.len
    omega
theorem nodeBytes_len {n : Node} (h : PutOk n) (h1 : n.ints.length ≤ 4) (h2 : n.texts.length ≤ 1) : (nodeBytes n).length ≤ 11534500 := by
  have hv : ∀ m : Nat, m < 18446744073709551616 → (vPut m).length ≤ 10 := fun m hm => vPut_len m (by omega)
  have a1 := flatMap_take_len (fun x => vPut (zig x)) 10 n.ints n.ints.length (fun x hx => hv _ (by have := h.ints x hx; have := zig_lt x (by omega) (by omega); omega))
  have a2 := flatMap_take_len (fun t : ByteArray => vPut t.size ++ t.data.toList) 1048586 n.texts n.texts.length (fun t ht => by
    have h1 := h.sz t ht
    have h2 := hv t.size (by omega)
    rw [List.length_append]
    have : t.data.toList.length = t.size := by simp
    omega)
  have a3 := flatMap_take_len (fun x : Int => vPut x.toNat) 10 n.kids n.kids.length (fun x hx => hv _ (by have := h.kids x hx; omega))
  rw [List.take_length] at a1 a2 a3
  have a4 := hv n.kind.toNat (by have := h.kind; omega)
  have a5 := hv n.kids.length (by have := h.lk; omega)
  have a6 : n.texts.length * 1048586 ≤ 1 * 1048586 := Nat.mul_le_mul_right _ h2
  have := h.lk
  unfold nodeBytes
  simp only [List.length_append]
  omega
end Pl

/-- Within oldfile.Save: the boxes, the Builder. -/
structure SavS (w : World) (b : Nat) (v : Value) (root : Int) (l : Pl.Lim) (L : Pl.Bytes) (w' : World) : Prop where
  sl : SlS w v root l w'
  bld : Bld (fun _ => False) b b L w'
  gt : w.heap.size + 1 < b
namespace SavS
variable {w w1 w2 : World} {b : Nat} {v : Value} {root : Int} {l : Pl.Lim} {L L' : Pl.Bytes}
theorem start (h : SlS w v root l w1) : SavS w w1.heap.size v root l [] (w1.alloc (.cells #[.pointer none, .slice none 0 0] 55)) :=
  ⟨h.step ((Below.refl _ _).alloc (Nat.le_refl _) _), bld_new w1, (Array.getElem?_eq_some_iff.1 h.lr).1⟩
theorem step (h : SavS w b v root l L w1) (hb : Below w1.heap.size w1 w2) : SavS w b v root l L w2 := ⟨h.sl.step hb, h.bld.below hb, h.gt⟩
theorem put (h : SavS w b v root l L w1) (hB : Bld (fun _ => False) b b L' w2) (hu : BldU (fun _ => False) b w1 w2) : SavS w b v root l L' w2 :=
  ⟨⟨⟨(hu.block _ (Array.getElem?_eq_some_iff.1 h.sl.sc.row).1 (fun hh => by have := hh.1; have := h.gt; omega)).trans h.sl.sc.row, Upd.below h.sl.bel hu h.sl.bel.size (fun i hi => by have := hi.1; have := h.gt; omega)⟩,
    (hu.block _ (Array.getElem?_eq_some_iff.1 h.sl.lr).1 (fun hh => by have := hh.1; have := h.gt; omega)).trans h.sl.lr⟩, hB, h.gt⟩
theorem less (h : SavS w b v root l L w1) (hb : Below b w1 w2) : SlS w v root l w2 :=
  ⟨⟨(hb.block _ (by have := h.gt; omega)).trans h.sl.sc.row, h.sl.bel.trans (hb.mono (by have := h.gt; omega))⟩, (hb.block _ h.gt).trans h.sl.lr⟩
theorem bel (h : SavS w b v root l L w1) : Below w.heap.size w w1 := h.sl.bel
theorem hz (h : SavS w b v root l L w1) : b ≤ w1.heap.size := by have := h.bld.open_.2.1; omega
theorem write (h : SavS w b v root l L w1) (s : ByteArray) (hl : L.length + s.size ≤ 140737488355328) : Calls Tryd.prog 16 #[.pointer (some ⟨b, 0, none⟩), .string s] w1 fun en w' => en = .returned (.tuple #[.int .i64 s.size, .nilIface]) ∧ SavS w b v root l (L ++ s.data.toList) w' :=
  (bld_str _ _ _ L s w1 h.bld hl).mono fun en w' ⟨h1, h2, h3⟩ => ⟨h1, h.put h2 h3⟩
end SavS
theorem ret_si {a a' : ByteArray} {k : IntKind} {b b' : Int} (h : a = a') (h2 : b = b') : Ending.returned (.tuple #[.string a, .int k b]) = .returned (.tuple #[.string a', .int k b']) := by rw [h, h2]

set_option maxHeartbeats 4000000 in
set_option maxRecDepth 100000 in
theorem of_save (v : Value) (s : Pl.Scene) (l : Pl.Lim) (w : World) (hT : Lib.Utf8Tabs 0 1 w) (hv : RNodes w v s.nodes) (hs : Pl.Sm s.nodes) :
    Calls Tryd.prog 7 #[.agg #[v, .int .i64 s.root], limV l] w fun en w' => en = .returned (.tuple #[.string (Pl.str (Pl.oldSave s l).1), .int .i64 (Pl.oldSave s l).2]) ∧ Below w.heap.size w w' := by
  have HS0 := Lib.hid (SlS.box w v s.root l)
  have HVd : Hid (∀ w1, Below w.heap.size w w1 → Calls Tryd.prog 10 #[.agg #[v, .int .i64 s.root], limV l] w1 fun en w' => en = .returned (.tuple #[.int .i64 (Pl.oldValid s l).1, .int .i64 (Pl.oldValid s l).2]) ∧ Below w1.heap.size w1 w') := fun w1 hb => old_valid v s l w1 (tabs_below hT hb) (hv.below hb) hs
  have HIs : Hid (∀ w1, Below w.heap.size w w1 → Calls Tryd.prog 11 #[.agg #[v, .int .i64 s.root]] w1 fun en w' => en = .returned (.bool (Pl.oldIs s)) ∧ Below w1.heap.size w1 w') := fun w1 hb => old_is v s w1 (hv.below hb) hs
  have HE : Hid (Pl.oldSave s l = if (Pl.oldValid s l).1 ≠ 0 then ([], (Pl.oldValid s l).1) else if Pl.oldIs s = false then ([], 16)
    else if (Pl.oldFile s.nodes).2 ≠ 0 ∨ l.b < ((Pl.oldFile s.nodes).1.length : Int) then ([], 19) else ((Pl.oldFile s.nodes).1, 0)) := rfl
  have HOk : Hid ((Pl.oldValid s l).1 = 0 → Pl.oldIs s = true → ∀ n ∈ s.nodes, Pl.PutOk n ∧ n.ints.length ≤ 4 ∧ n.texts.length ≤ 1) := by
    intro h1 h2
    unfold Pl.oldValid at h1
    by_cases a1 : Pl.right l = false
    · rw [if_pos a1] at h1; simp at h1
    rw [if_neg a1] at h1
    by_cases a2 : (Pl.typed Pl.oldSpec s.nodes 0).1 = 0
    · rw [if_neg (by simpa using a2)] at h1
      by_cases a3 : (Pl.gCheck s.nodes s.root).1 = 0
      · exact Pl.putOk_of hs (Pl.gCheck_ok.1 a3).refs a2
      · rw [if_pos a3] at h1; exact absurd h1 a3
    · rw [if_pos a2] at h1; exact absurd h1 a2
  have HV := Lib.hid hv
  have hl := hs.len
  obtain ⟨nodes, root⟩ := s
  simp only at *
  generalize Pl.oldValid ⟨nodes, root⟩ l = va at *
  generalize Pl.oldIs ⟨nodes, root⟩ = qi at *
  obtain ⟨v1, v2⟩ := va
  obtain ⟨A, c, rfl⟩ : ∃ A c, v = .slice A nodes.length c := by obtain ⟨A, c, rfl, _⟩ := hv; exact ⟨A, c, rfl⟩
  clear hv hs hT
  have hlv : limV l = .agg (limC l) := rfl
  simp only [limV] at *
  clear hlv
  go_enter Tryd.func7, Tryd.ntmps7
  obtain ⟨a0, a1, b0, b1, b2, b3, b4⟩ := HS0.out.cells
  go_wp2_with fail
  refine (HVd.out _ HS0.out.bel).mono ?_
  rintro en w1 ⟨rfl, hb1⟩
  have HS1 : Hid (SlS w (.slice A nodes.length c) root l w1) := HS0.out.step hb1
  clear hb1 HS0 HVd a0 a1 b0 b1 b2 b3 b4
  by_cases h1 : v1 = 0
  rotate_left
  · have HR : Hid (Pl.oldSave ⟨nodes, root⟩ l = ([], v1)) := by unfold Hid; rw [HE.out, if_pos h1]
    have te : (v1 != 0) = true := by simpa using h1
    go_wp2_with fail
    go_ret2
    exact ⟨ret_si (by rw [HR.out]; rfl) (by rw [HR.out]), HS1.out.bel⟩
  subst h1
  obtain ⟨a0, a1, _⟩ := HS1.out.cells
  go_wp2_with fail
  refine (HIs.out _ HS1.out.bel).mono ?_
  rintro en w2 ⟨rfl, hb2⟩
  have HS2 : Hid (SlS w (.slice A nodes.length c) root l w2) := HS1.out.step hb2
  clear hb2 HS1 HIs a0 a1
  cases qi
  · have HR : Hid (Pl.oldSave ⟨nodes, root⟩ l = ([], 16)) := by unfold Hid; rw [HE.out, if_neg (by simp), if_pos rfl]
    go_wp2_with fail
    go_ret2
    exact ⟨ret_si (by rw [HR.out]; rfl) (by rw [HR.out]), HS2.out.bel⟩
  have HOk2 : Hid (∀ n ∈ nodes, Pl.PutOk n ∧ n.ints.length ≤ 4 ∧ n.texts.length ≤ 1) := by have := HOk.out; unfold Hid; simpa using this
  have HE2 : Hid (Pl.oldSave ⟨nodes, root⟩ l = if (Pl.oldFile nodes).2 ≠ 0 ∨ l.b < ((Pl.oldFile nodes).1.length : Int) then ([], 19) else ((Pl.oldFile nodes).1, 0)) := by unfold Hid; rw [HE.out, if_neg (by simp), if_neg (by simp)]
  clear HOk HE
  have HB0 := Lib.hid (SavS.start HS2.out)
  have ew : IntKind.u64.wrap (nodes.length : Int) = nodes.length := Pl.wraps_u64 _ (by omega) (by omega)
  go_upto_region 7 with (fail)
  clear HS2
  generalize hbb : w2.heap.size = b at *
  generalize w2.alloc (.cells #[.pointer none, .slice none 0 0] 55) = w3 at *
  clear hbb
  obtain ⟨a0, a1, _⟩ := HB0.out.sl.cells
  go_wp2_with fail
  refine (vput_any nodes.length _ (by omega)).mono ?_
  rintro en w4 ⟨rfl, hb4⟩
  have HB1 := Lib.hid (HB0.out.step hb4)
  clear hb4 HB0 a0 a1
  have hv10 := Pl.vPut_len nodes.length (by omega)
  go_wp2_with fail
  refine (HB1.out.write (Pl.str (Pl.vPut nodes.length)) (by rw [str_size']; simp; omega)).mono ?_
  rintro en w5 ⟨rfl, hB5⟩
  rw [str_list, List.nil_append] at hB5
  have HB5 := Lib.hid hB5
  clear hB5 HB1
  obtain ⟨a0, a1, _⟩ := HB5.out.sl.cells
  go_wp2_with fail
  clear a0 a1
  go_loopw [34] (fun i wr => ∃ k : Nat, k ≤ nodes.length ∧ i = .int .i64 k ∧ Hid (SavS w b (.slice A nodes.length c) root l (Pl.vPut nodes.length ++ (nodes.take k).flatMap Pl.nodeBytes) wr)) (fun i _ => nodes.length - (intOf i).toNat)
  case atStart => exact ⟨0, by omega, rfl, by simpa [Hid] using HB5.out⟩
  case round =>
    clear HB5
    obtain ⟨k, hk, rfl, hB⟩ := hrel
    have hfl0 := Pl.flatMap_take_len Pl.nodeBytes 11534500 nodes k (fun n hn => Pl.nodeBytes_len (HOk2.out n hn).1 (HOk2.out n hn).2.1 (HOk2.out n hn).2.2)
    have hfl1 : k * 11534500 ≤ 1048576 * 11534500 := Nat.mul_le_mul_right _ (by omega)
    by_cases hlt : k < nodes.length
    · obtain ⟨A', c', hve, hcc⟩ := HV.out.below hB.out.bel
      cases hve
      obtain ⟨ad, rfl, hca⟩ := hcc (by omega)
      obtain ⟨vi, vt, vk, h0, h1, h2, h3, hi, ht, hkk⟩ := hca k hlt
      have tl : decide ((k : Int) < nodes.length) = true := decide_eq_true (by omega)
      have hsn := Lib.hid (Pl.flatMap_snoc Pl.nodeBytes nodes k hlt)
      have hok := HOk2.out _ (List.getElem_mem hlt)
      clear hca hcc
      generalize nodes[k] = x at *
      have hnb := Pl.nodeBytes_len hok.1 hok.2.1 hok.2.2
      have HFl : Hid ((Pl.vPut nodes.length ++ (nodes.take k).flatMap Pl.nodeBytes).length + (Pl.str (Pl.nodeBytes x)).size ≤ 140737488355328) := by
        unfold Hid; rw [List.length_append, str_size']; omega
      have hBa : Below wr.heap.size wr (wr.alloc (.cells #[.int .i64 x.kind, vi, vt, vk] 43)) := (Below.refl _ _).alloc (Nat.le_refl _) _
      have HP := Lib.hid (of_put x vi vt vk _ (hi.below hBa) (ht.below hBa) (hkk.below hBa) hok.1)
      have HB2 := Lib.hid (hB.out.step hBa)
      obtain ⟨VA, vc, rfl, _⟩ := hkk
      obtain ⟨TA, tc, rfl, _⟩ := ht
      obtain ⟨IA, ic, rfl, _⟩ := hi
      clear hok hnb hfl0 hfl1 hB hBa
      go_wp2_with fail
      refine HP.out.mono ?_
      rintro en w6 ⟨rfl, hb6⟩
      have HB6 := Lib.hid (HB2.out.step hb6)
      clear hb6 HB2 HP h0 h1 h2 h3
      go_wp2_with fail
      refine (HB6.out.write (Pl.str (Pl.nodeBytes x)) HFl.out).mono ?_
      rintro en w7 ⟨rfl, hB7⟩
      rw [str_list] at hB7
      have HB7 := Lib.hid hB7
      clear hB7 HB6
      go_wp2_with fail
      go_roundw
      case rel => exact ⟨k + 1, by omega, by go_num, by unfold Hid; rw [hsn.out, ← List.append_assoc]; exact HB7.out⟩
      case measure => simp [intOf]; omega
    · obtain rfl : k = nodes.length := by omega
      have hB0 := hB.out
      rw [List.take_length] at hB0 hfl0
      have hrb : Pl.vPut nodes.length ++ nodes.flatMap Pl.nodeBytes = Pl.recBytes nodes := rfl
      have HLn : Hid ((Pl.recBytes nodes).length ≤ 140737488355328) := by unfold Hid; rw [← hrb, List.length_append]; omega
      rw [hrb] at hB0
      have HB0 := Lib.hid hB0
      have HOF : Hid (Pl.oldFile nodes = Pl.framePut Pl.mag 1 [⟨1, Pl.recBytes nodes⟩]) := rfl
      clear hB hB0 hfl0 hfl1 hrb hv10
      generalize Pl.recBytes nodes = pay at *
      generalize Pl.oldFile nodes = f at *
      go_wp2_with fail
      refine (bld_string _ _ _ _ _ HB0.out.bld HB0.out.hz).mono ?_
      rintro en w8 ⟨rfl, hb8⟩
      have HB8 : Hid (SlS w (.slice A nodes.length c) root l w8) := HB0.out.less hb8
      clear hb8 HB0
      have hBx : Below w8.heap.size w8 (w8.alloc (.cells #[.int .i64 1, .string (Pl.str pay)] 48)) := (Below.refl _ _).alloc (Nat.le_refl _) _
      have HS8 := Lib.hid (HB8.out.step hBx)
      have HFp := Lib.hid (frame_put ⟨#[68, 73, 79, 82]⟩ 1 (some ⟨w8.heap.size, 0, none⟩) 1 [⟨1, pay⟩] (w8.alloc (.cells #[.int .i64 1, .string (Pl.str pay)] 48)) (by
          intro _
          refine ⟨_, rfl, fun j hj => ?_⟩
          obtain rfl : j = 0 := by simp at hj; omega
          exact ⟨by simp [Addr.add, cell_row (heap_alloc_new _ _)], by simp [Addr.add, cell_row (heap_alloc_new _ _)]⟩) rfl (by simp) (by simp) (by simp) (by intro s hs; simp at hs; subst hs; exact HLn.out))
      have hmag : (⟨#[68, 73, 79, 82]⟩ : ByteArray).data.toList = Pl.mag := rfl
      rw [hmag, ← HOF.out] at HFp
      clear hBx hmag
      go_wp2_with fail
      refine HFp.out.mono ?_
      rintro en w9 ⟨rfl, hb9⟩
      have HS9 := Lib.hid (HS8.out.step hb9)
      obtain ⟨_, _, b0, b1, b2, b3, b4⟩ := HS9.out.cells
      have hfl : f.1.length ≤ 140737488355328 := by
        rw [HOF.out]; unfold Pl.framePut
        split
        · rename_i hal
          have h1 := Pl.secBytes_len ⟨1, pay⟩ (by simpa using hal)
          simp [Pl.frameBytes, Pl.mag]; omega
        · simp
      clear hb9 HS8 HFp HOF
      obtain ⟨fb, fe⟩ := f
      simp only at HE2 hfl ⊢
      have hsz : (Pl.str fb).size = fb.length := str_size' fb
      by_cases hfe : fe = 0
      · subst hfe
        by_cases hlb : l.b < (fb.length : Int)
        · have HR : Hid (Pl.oldSave ⟨nodes, root⟩ l = ([], 19)) := by unfold Hid; rw [HE2.out, if_pos (.inr hlb)]
          have tb : decide (l.b < (fb.length : Int)) = true := decide_eq_true hlb
          go_wp2_with fail
          go_ret2
          exact ⟨ret_si (by rw [HR.out]; rfl) (by rw [HR.out]), HS9.out.bel⟩
        · have HR : Hid (Pl.oldSave ⟨nodes, root⟩ l = (fb, 0)) := by unfold Hid; rw [HE2.out, if_neg (by simpa using hlb)]
          have tb : decide (l.b < (fb.length : Int)) = false := decide_eq_false hlb
          go_wp2_with fail
          go_ret2
          exact ⟨ret_si (by rw [HR.out]) (by rw [HR.out]), HS9.out.bel⟩
      · have HR : Hid (Pl.oldSave ⟨nodes, root⟩ l = ([], 19)) := by unfold Hid; rw [HE2.out, if_pos (.inl hfe)]
        have te : (fe != 0) = true := by simpa using hfe
        go_wp2_with fail
        go_ret2
        exact ⟨ret_si (by rw [HR.out]; rfl) (by rw [HR.out]), HS9.out.bel⟩
end Go.Proofs.YtdejljgoebcmpaaDoor
/- frame.Get. -/
namespace Go.Proofs.YtdejljgoebcmpaaDoor
open Go.RowKit

/-- The section that stands there; where one stands then; the error. -/
theorem bel_drewN {B : Nat} {a w : World} (h : Below B a w) (n : Nat) : Below B a (w.drewN n) := h.trans ⟨rfl, rfl, rfl, Nat.le_refl _, fun _ _ => rfl⟩
def fSec (l : Pl.Bytes) (p : Nat) (e : Int) : Pl.Sec × Nat × Int :=
  let r1 := cByte l p e
  let e1 := if r1.1 = 0 then cFail r1.2.2 4 else r1.2.2
  let r2 := cUint l r1.2.1 e1 16777216
  let e2 := if r2.2.2 = 0 ∧ (l.length : Int) - r2.2.1 < r2.1 + 4 then 2 else r2.2.2
  let r3 := cBytes l r2.2.1 e2 r2.1
  let r4 := cBytes l r3.2.1 r3.2.2 4
  (⟨r1.1, r3.1⟩, r4.2.1, if r4.1.length = 4 ∧ Pl.crcGet r4.1 = Pl.crc r3.1 then r4.2.2 else cFail r4.2.2 5)
theorem cByte_bd (l : Pl.Bytes) (p : Nat) (e : Int) (h : p ≤ l.length) : (cByte l p e).1 < 256 ∧ (cByte l p e).2.1 ≤ l.length := by
  unfold cByte; split
  · simp; exact h
  · split
    · simp; exact ⟨UInt8.toNat_lt _, by omega⟩
    · simp; exact h
theorem cBytes_bd (l : Pl.Bytes) (p : Nat) (e n : Int) (h : p ≤ l.length) : (cBytes l p e n).1.length ≤ l.length ∧ (cBytes l p e n).2.1 ≤ l.length := by
  unfold cBytes; split
  · simp; exact h
  · split
    · simp; exact h
    · split
      · simp; exact h
      · simp; omega
theorem CurAt.alloc {w : World} {g : Nat} {b : ByteArray} {p e : Int} (h : CurAt w g b p e) (o : Obj) : CurAt (w.alloc o) g b p e := (Below.heap_alloc _ _ _ h.lt).trans h

/-- A cursor, within a call that began at w: where it stands; nothing but it has turned. -/
structure CurS (w : World) (g : Nat) (b : ByteArray) (p e : Int) (w' : World) : Prop where
  at_ : CurAt w' g b p e
  upd : Upd (· = g) w w'
theorem CurS.step {w w1 w2 : World} {g : Nat} {b : ByteArray} {p e p' e' : Int} (h : CurS w g b p e w1) (h1 : CurAt w2 g b p' e') (h2 : Upd (· = g) w1 w2) : CurS w g b p' e' w2 := ⟨h1, h.upd.trans h2⟩
theorem CurS.below {w w1 w2 : World} {g : Nat} {b : ByteArray} {p e : Int} (h : CurS w g b p e w1) (h2 : Below w1.heap.size w1 w2) : CurS w g b p e w2 :=
  ⟨(h2.block g h.at_.lt).trans h.at_, h.upd.trans (Upd.of_below h2)⟩
theorem CurS.alloc {w w1 : World} {g : Nat} {b : ByteArray} {p e : Int} (h : CurS w g b p e w1) (o : Obj) : CurS w g b p e (w1.alloc o) := ⟨h.at_.alloc o, h.upd.alloc o⟩
theorem CurS.set {w w1 : World} {g k : Nat} {b : ByteArray} {p e : Int} (h : CurS w g b p e w1) (hk : w.heap.size ≤ k) (hg : k ≠ g) (j : Nat) (u : Value) : CurS w g b p e (w1.setCell ⟨k, j, none⟩ u) :=
  ⟨(Below.heap_setCell _ _ _ _ (by simpa using Ne.symm hg)).trans h.at_, h.upd.set (.inr hk) j u⟩

theorem cells2 {w : World} {k : Nat} {a b : Value} {t : TypeId} (h : w.heap[k]? = some (.cells #[a, b] t (0, 0))) : w.cell? ⟨k, 0, none⟩ = some a ∧ w.cell? ⟨k, 1, none⟩ = some b := by
  unfold World.cell?; rw [h]; exact ⟨rfl, rfl⟩
theorem frozen2 {w : World} {k : Nat} {cs : Array Value} {t : TypeId} (h : w.heap[k]? = some (.cells cs t (0, 0))) (j : Nat) : w.frozen? ⟨k, j, none⟩ = false := by
  unfold World.frozen?; rw [h]; simp
theorem set2 {w : World} {k : Nat} {a b : Value} {t : TypeId} (h : w.heap[k]? = some (.cells #[a, b] t (0, 0))) (u v : Value) : ((w.setCell ⟨k, 0, none⟩ u).setCell ⟨k, 1, none⟩ v).heap[k]? = some (.cells #[u, v] t (0, 0)) := by
  unfold World.setCell; simp [Array.getElem?_modify, h]
set_option maxRecDepth 100000 in
theorem sec_size (x : Int) (s : ByteArray) : (Tryd.prog.info? 48).map (·.size) = some (#[Value.int .i64 x, .string s]).size := rfl
/-- The same, with the result's block. -/
structure SecR (w : World) (g : Nat) (b : ByteArray) (p e : Int) (o : Obj) (w' : World) : Prop where
  cur : CurS w g b p e w'
  row : w'.heap[w.heap.size]? = some o
theorem SecR.at_ {w w1 : World} {g : Nat} {b : ByteArray} {p e : Int} {o : Obj} (h : SecR w g b p e o w1) : CurAt w1 g b p e := h.cur.at_
theorem SecR.step {w w1 w2 : World} {g : Nat} {b : ByteArray} {p e p' e' : Int} {o : Obj} (h : SecR w g b p e o w1) (hg : g < w.heap.size) (h1 : CurAt w2 g b p' e') (h2 : Upd (· = g) w1 w2) : SecR w g b p' e' o w2 :=
  ⟨h.cur.step h1 h2, (h2.block _ (Array.getElem?_eq_some_iff.1 h.row).1 (by omega)).trans h.row⟩
theorem SecR.alloc {w w1 : World} {g : Nat} {b : ByteArray} {p e : Int} {o : Obj} (h : SecR w g b p e o w1) (x : Obj) : SecR w g b p e o (w1.alloc x) :=
  ⟨h.cur.alloc x, (Below.heap_alloc _ _ _ (Array.getElem?_eq_some_iff.1 h.row).1).trans h.row⟩
theorem SecR.below {w w1 w2 : World} {g : Nat} {b : ByteArray} {p e : Int} {o : Obj} (h : SecR w g b p e o w1) (h2 : Below w1.heap.size w1 w2) : SecR w g b p e o w2 :=
  ⟨h.cur.below h2, (h2.block _ (Array.getElem?_eq_some_iff.1 h.row).1).trans h.row⟩

theorem sec_fin {w w1 : World} {g : Nat} {b : ByteArray} {p : Nat} {e : Int} {o : Obj} (hlt : g < w.heap.size) (h : SecR w g b p e o w1) (u v : Value) {id : Int} {s : ByteArray} :
    Ending.returned (.agg #[.int .i64 id, .string s]) = Ending.returned (.agg #[.int .i64 id, .string s]) ∧ CurAt ((w1.setCell ⟨w.heap.size, 0, none⟩ u).setCell ⟨w.heap.size, 1, none⟩ v) g b p e ∧ Upd (· = g) w ((w1.setCell ⟨w.heap.size, 0, none⟩ u).setCell ⟨w.heap.size, 1, none⟩ v) :=
  have h2 := (h.cur.set (Nat.le_refl _) (by omega) 0 u).set (Nat.le_refl _) (by omega) 1 v
  ⟨rfl, h2.at_, h2.upd⟩

set_option maxHeartbeats 2000000 in
set_option maxRecDepth 100000 in
theorem frame_section (g : Nat) (b : ByteArray) (p : Nat) (e : Int) (w : World) (h : CurAt w g b p e) (h1 : p ≤ b.size) (hb : b.size ≤ 140737488355328) :
    Calls Tryd.prog 43 #[.pointer (some ⟨g, 0, none⟩)] w fun en w' => en = .returned (.agg #[.int .i64 (fSec b.data.toList p e).1.id, .string (Pl.str (fSec b.data.toList p e).1.pay)]) ∧ CurAt w' g b (fSec b.data.toList p e).2.1 (fSec b.data.toList p e).2.2 ∧ Upd (· = g) w w' := by
  have hsz : b.data.toList.length = b.size := by simp
  have hlt := h.lt
  have HS0 : SecR w g b p e (.cells #[.int .i64 0, .string ⟨#[]⟩] 48 (0, 0)) (w.alloc (.cells #[.int .i64 0, .string ⟨#[]⟩] 48)) := ⟨⟨h.alloc _, (Upd.refl _ w).alloc _⟩, by show (w.heap.push _)[w.heap.size]? = _; simp⟩
  clear h
  obtain ⟨O, hO⟩ : ∃ O : Obj, O = .cells #[.int .i64 0, .string ⟨#[]⟩] 48 (0, 0) := ⟨_, rfl⟩
  replace HS0 : SecR w g b p e O (w.alloc (.cells #[.int .i64 0, .string ⟨#[]⟩] 48)) := by rw [hO]; exact HS0
  have HO := Lib.hid hO
  clear hO
  obtain ⟨r1, hr1⟩ : ∃ r, r = cByte b.data.toList p e := ⟨_, rfl⟩
  have bd1 := cByte_bd b.data.toList p e (by omega)
  have HN1 : ∀ w1, CurAt w1 g b p e → Calls Tryd.prog 39 #[.pointer (some ⟨g, 0, none⟩)] w1 fun en w' => en = .returned (.int .u8 r1.1) ∧ CurAt w' g b r1.2.1 r1.2.2 ∧ Upd (· = g) w1 w' := fun w1 h => by subst hr1; exact cur_byte g b p e w1 h h1 hb
  rw [← hr1, hsz] at bd1
  obtain ⟨id, p1, e1⟩ := r1
  obtain ⟨bd1a, bd1b⟩ := bd1
  simp only at bd1a bd1b
  obtain ⟨E1, hE1⟩ : ∃ E, E = (if id = 0 then cFail e1 4 else e1) := ⟨_, rfl⟩
  obtain ⟨r2, hr2⟩ : ∃ r, r = cUint b.data.toList p1 E1 16777216 := ⟨_, rfl⟩
  have bd2 := cUint_bd b.data.toList p1 E1 16777216 (by omega)
  have HN2 : ∀ w1, CurAt w1 g b p1 E1 → Calls Tryd.prog 44 #[.pointer (some ⟨g, 0, none⟩), .int .u64 16777216] w1 fun en w' => en = .returned (.int .i64 r2.1) ∧ CurAt w' g b r2.2.1 r2.2.2 ∧ Upd (· = g) w1 w' := fun w1 h => by subst hr2; exact cur_uint g b p1 E1 16777216 w1 h (by omega) hb (by omega)
  rw [← hr2, hsz] at bd2
  obtain ⟨n, p2, e2⟩ := r2
  obtain ⟨bd2a, _, bd2b⟩ := bd2
  simp only at bd2a bd2b
  obtain ⟨E2, hE2⟩ : ∃ E, E = (if e2 = 0 ∧ (b.size : Int) - p2 < n + 4 then 2 else e2) := ⟨_, rfl⟩
  obtain ⟨r3, hr3⟩ : ∃ r, r = cBytes b.data.toList p2 E2 n := ⟨_, rfl⟩
  have bd3 := cBytes_bd b.data.toList p2 E2 n (by omega)
  have HN3 : ∀ w1, CurAt w1 g b p2 E2 → Calls Tryd.prog 60 #[.pointer (some ⟨g, 0, none⟩), .int .i64 n] w1 fun en w' => en = .returned (.string (Pl.str r3.1)) ∧ CurAt w' g b r3.2.1 r3.2.2 ∧ Upd (· = g) w1 w' := fun w1 h => by subst hr3; exact cur_bytes g b p2 E2 n w1 h (by omega) hb (by omega)
  rw [← hr3, hsz] at bd3
  obtain ⟨pay, p3, e3⟩ := r3
  obtain ⟨bd3a, bd3b⟩ := bd3
  simp only at bd3a bd3b
  obtain ⟨r4, hr4⟩ : ∃ r, r = cBytes b.data.toList p3 e3 4 := ⟨_, rfl⟩
  have bd4 := cBytes_bd b.data.toList p3 e3 4 (by omega)
  have HN4 : ∀ w1, CurAt w1 g b p3 e3 → Calls Tryd.prog 60 #[.pointer (some ⟨g, 0, none⟩), .int .i64 4] w1 fun en w' => en = .returned (.string (Pl.str r4.1)) ∧ CurAt w' g b r4.2.1 r4.2.2 ∧ Upd (· = g) w1 w' := fun w1 h => by subst hr4; exact cur_bytes g b p3 e3 4 w1 h (by omega) hb (by omega)
  rw [← hr4, hsz] at bd4
  obtain ⟨s4, p4, e4⟩ := r4
  obtain ⟨bd4a, _⟩ := bd4
  simp only at bd4a
  have HF : Hid (fSec b.data.toList p e = (⟨id, pay⟩, p4, if s4.length = 4 ∧ Pl.crcGet s4 = Pl.crc pay then e4 else cFail e4 5)) := by
    unfold Hid fSec
    simp only [← hr1, ← hE1, ← hr2, hsz, ← hE2, ← hr3, ← hr4]
  have HN1' := Lib.hid HN1
  have HN2' := Lib.hid HN2
  have HN3' := Lib.hid HN3
  have HN4' := Lib.hid HN4
  have HE1 := Lib.hid hE1
  have HE2 := Lib.hid hE2
  clear hr1 hr2 hr3 hr4 HN1 HN2 HN3 HN4 hE1 hE2
  go_enter Tryd.func43, Tryd.ntmps43
  go_wp2_with fail
  refine (HN1'.out _ HS0.at_).mono ?_
  rintro en w1 ⟨rfl, hq1, hu1⟩
  have HS1 := HS0.step hlt hq1 hu1
  clear hq1 hu1 HS0 HN1'
  go_wp2_with fail
  focus
    have hid : id = 0 := by have hc := ‹((id : Int) == 0) = true›; simpa using hc
    refine (cur_fail g b p1 e1 4 w1 HS1.at_).mono ?_
    rintro en w2 ⟨rfl, hq, hu⟩
    have HS2 : SecR w g b p1 E1 O w2 := by have := HS1.step hlt hq hu; rw [HE1.out, if_pos hid]; exact this
    clear hq hu HS1 hid HE1
    go_wp2_with fail
  rotate_left
  focus
    have hid : ¬ id = 0 := by have hc := ‹((id : Int) == 0) = false›; simpa using hc
    have HS2 : SecR w g b p1 E1 O w1 := by rw [HE1.out, if_neg hid]; exact HS1
    clear HS1 hid HE1
  all_goals
    refine (HN2'.out _ HS2.at_).mono ?_
    rintro en w1 ⟨rfl, hq1, hu1⟩
    have HS1 := HS2.step hlt hq1 hu1
    clear hq1 hu1 HS2 HN2'
    go_wp2_with fail
    refine (cur_err g b p2 e2 w1 HS1.at_).mono ?_
    rintro en w2 ⟨rfl, rfl⟩
    by_cases he2 : e2 = 0
    focus
      have hb2 : (e2 == 0) = true := by simpa using he2
      go_wp2_with fail
      refine (cur_left g b p2 e2 w1 HS1.at_ bd2b hb).mono ?_
      rintro en w2 ⟨m, rfl, rfl⟩
      replace HS1 := HS1.below (bel_drewN (Below.refl _ _) m)
      generalize w1.drewN m = w2 at *
      by_cases hc : (b.size : Int) - p2 < n + 4
      focus
        have hcb : decide ((b.size : Int) - p2 < n + 4) = true := by simpa using hc
        go_wp2_with fail
        refine (cur_fail g b p2 e2 2 w2 HS1.at_).mono ?_
        rintro en w3 ⟨rfl, hq, hu⟩
        have HS2 : SecR w g b p2 E2 O w3 := by have := HS1.step hlt hq hu; rw [HE2.out, if_pos ⟨he2, hc⟩]; simpa [cFail, he2] using this
        clear hq hu HS1 HE2
        go_wp2_with fail
      rotate_left
      focus
        have hcb : decide ((b.size : Int) - p2 < n + 4) = false := by simpa using hc
        have HS2 : SecR w g b p2 E2 O w2 := by rw [HE2.out, if_neg (fun h => hc h.2)]; exact HS1
        clear HS1 HE2
        go_wp2_with fail
    rotate_right
    focus
      have hb2 : (e2 == 0) = false := by simpa using he2
      have HS2 : SecR w g b p2 E2 O w1 := by rw [HE2.out, if_neg (by simp [he2])]; exact HS1
      clear HS1 HE2
      go_wp2_with fail
  all_goals
    refine (HN3'.out _ HS2.at_).mono ?_
    rintro en w1 ⟨rfl, hq1, hu1⟩
    have HS1 := HS2.step hlt hq1 hu1
    clear hq1 hu1 HS2 HN3'
    go_wp2_with fail
  all_goals
    have HS2 : SecR w g b p3 e3 O (w1.alloc (.cells #[.int .i64 id, .string (Pl.str pay)] 48)) := HS1.alloc _
    have hcl : w.heap.size ≤ w1.heap.size := HS1.cur.upd.size
    have hcw : w.heap.size ≠ w1.heap.size := by have := (Array.getElem?_eq_some_iff.1 HS1.row).1; omega
    have HP : Hid ((w1.alloc (.cells #[.int .i64 id, .string (Pl.str pay)] 48)).heap[w1.heap.size]? = some (.cells #[.int .i64 id, .string (Pl.str pay)] 48 (0, 0))) := by show (w1.heap.push _)[w1.heap.size]? = _; simp
    clear HS1
    refine (HN4'.out _ HS2.at_).mono ?_
    rintro en w2 ⟨rfl, hq1, hu1⟩
    have HS1 := HS2.step hlt hq1 hu1
    replace HP : Hid (w2.heap[w1.heap.size]? = some (.cells #[.int .i64 id, .string (Pl.str pay)] 48 (0, 0))) := (hu1.block _ (by simp) (by omega)).trans HP.out
    clear hq1 hu1 HS2 HN4'
    generalize w1.heap.size = c at *
    go_wp2_with fail
  all_goals
    by_cases h4 : s4.length = 4
    focus
      have HG : Calls Tryd.prog 61 #[.string (Pl.str s4)] w2 fun en w' => en = .returned (.tuple #[.int .u32 (Pl.crcGet s4), .bool true]) ∧ ∃ n, w' = w2.drewN n := by
        have := crc_get (Pl.str s4) w2 (by simpa [Pl.str, ByteArray.size] using h4); simpa [Pl.str] using this
      refine HG.mono ?_
      rintro en w3 ⟨rfl, m, rfl⟩
      replace HS1 := HS1.below (bel_drewN (Below.refl _ _) m)
      replace HP : Hid ((w2.drewN m).heap[c]? = some (.cells #[.int .i64 id, .string (Pl.str pay)] 48 (0, 0))) := HP
      generalize w2.drewN m = w3 at *
      have hP1 : w3.cell? ⟨c, 1, none⟩ = some (.string (Pl.str pay)) := by unfold World.cell?; rw [HP.out]; rfl
      go_wp2_with fail
      refine (crc_sum_str pay w3 (by omega)).mono ?_
      rintro en w4 ⟨rfl, hB⟩
      replace HS1 := HS1.below hB
      replace HP : Hid (w4.heap[c]? = some (.cells #[.int .i64 id, .string (Pl.str pay)] 48 (0, 0))) := (hB.block _ (Array.getElem?_eq_some_iff.1 HP.out).1).trans HP.out
      clear hB hP1
      by_cases hk : Pl.crcGet s4 = Pl.crc pay
      focus
        have hkb : ((Pl.crcGet s4 : Int) != (Pl.crc pay : Int)) = false := by simp [hk]
        have hkn : (Pl.crcGet s4 != Pl.crc pay) = false := by simp [hk]
        have HV : Hid (fSec b.data.toList p e = (⟨id, pay⟩, p4, e4)) := by have := HF.out; rw [if_pos ⟨h4, hk⟩] at this; exact this
        clear HF
        obtain ⟨hP0, hP1⟩ := cells2 HP.out
        obtain ⟨hO0, hO1⟩ := cells2 (HS1.row.trans (congrArg some HO.out))
        have hOf : ∀ j, w4.frozen? ⟨w.heap.size, j, none⟩ = false := frozen2 (HS1.row.trans (congrArg some HO.out))
        go_wp2_with fail
        exact bodyPost_ret (v := .agg #[.int .i64 id, .string (Pl.str pay)]) (results_cell_row rfl _ _ w.heap.size 48 _ (0, 0) _ rfl (set2 (HS1.row.trans (congrArg some HO.out)) _ _) Tryd.underlying48 rfl (sec_size _ _)) rfl (by rw [HV.out]; exact sec_fin hlt HS1 _ _)
      focus
        have hkn : (Pl.crcGet s4 != Pl.crc pay) = true := by simpa using hk
        have hkb : ((Pl.crcGet s4 : Int) != (Pl.crc pay : Int)) = true := by rw [bne_iff_ne]; omega
        have HV : Hid (fSec b.data.toList p e = (⟨id, pay⟩, p4, cFail e4 5)) := by have := HF.out; rw [if_neg (fun h => hk h.2)] at this; exact this
        clear HF
        go_wp2_with fail
        refine (cur_fail g b p4 e4 5 w4 HS1.at_).mono ?_
        rintro en w5 ⟨rfl, hq, hu⟩
        replace HS1 := HS1.step hlt hq hu
        replace HP : Hid (w5.heap[c]? = some (.cells #[.int .i64 id, .string (Pl.str pay)] 48 (0, 0))) := (hu.block _ (Array.getElem?_eq_some_iff.1 HP.out).1 (by omega)).trans HP.out
        clear hq hu
        obtain ⟨hP0, hP1⟩ := cells2 HP.out
        obtain ⟨hO0, hO1⟩ := cells2 (HS1.row.trans (congrArg some HO.out))
        have hOf : ∀ j, w5.frozen? ⟨w.heap.size, j, none⟩ = false := frozen2 (HS1.row.trans (congrArg some HO.out))
        go_wp2_with fail
        exact bodyPost_ret (v := .agg #[.int .i64 id, .string (Pl.str pay)]) (results_cell_row rfl _ _ w.heap.size 48 _ (0, 0) _ rfl (set2 (HS1.row.trans (congrArg some HO.out)) _ _) Tryd.underlying48 rfl (sec_size _ _)) rfl (by rw [HV.out]; exact sec_fin hlt HS1 _ _)
    focus
      have HV : Hid (fSec b.data.toList p e = (⟨id, pay⟩, p4, cFail e4 5)) := by have := HF.out; rw [if_neg (fun h => h4 h.1)] at this; exact this
      refine (crc_get_no (Pl.str s4) w2 (by simpa [Pl.str, ByteArray.size] using h4)).mono ?_
      rintro en w3 ⟨rfl, rfl⟩
      clear HF
      go_wp2_with fail
      refine (cur_fail g b p4 e4 5 w2 HS1.at_).mono ?_
      rintro en w5 ⟨rfl, hq, hu⟩
      replace HS1 := HS1.step hlt hq hu
      replace HP : Hid (w5.heap[c]? = some (.cells #[.int .i64 id, .string (Pl.str pay)] 48 (0, 0))) := (hu.block _ (Array.getElem?_eq_some_iff.1 HP.out).1 (by omega)).trans HP.out
      clear hq hu
      obtain ⟨hP0, hP1⟩ := cells2 HP.out
      obtain ⟨hO0, hO1⟩ := cells2 (HS1.row.trans (congrArg some HO.out))
      have hOf : ∀ j, w5.frozen? ⟨w.heap.size, j, none⟩ = false := frozen2 (HS1.row.trans (congrArg some HO.out))
      go_wp2_with fail
      exact bodyPost_ret (v := .agg #[.int .i64 id, .string (Pl.str pay)]) (results_cell_row rfl _ _ w.heap.size 48 _ (0, 0) _ rfl (set2 (HS1.row.trans (congrArg some HO.out)) _ _) Tryd.underlying48 rfl (sec_size _ _)) rfl (by rw [HV.out]; exact sec_fin hlt HS1 _ _)
end Go.Proofs.YtdejljgoebcmpaaDoor
/- frame.Get: the whole. -/
namespace Go.Proofs.YtdejljgoebcmpaaDoor
open Go.RowKit

def secCells (l : List Pl.Sec) : List Value := l.flatMap fun s => [.int .i64 s.id, .string (Pl.str s.pay)]
theorem secCells_snoc (l : List Pl.Sec) (s : Pl.Sec) : secCells (l ++ [s]) = secCells l ++ [.int .i64 s.id, .string (Pl.str s.pay)] := by simp [secCells]
theorem secCells_len (l : List Pl.Sec) : (secCells l).length = l.length * 2 := by
  induction l with
  | nil => rfl
  | cons s l ih => simp only [secCells, List.flatMap_cons, List.length_append] at ih ⊢; simp only [ih, List.length_cons, List.length_nil]; omega

def fGo (l : Pl.Bytes) : Nat → Nat → Int → List Pl.Sec → Int × List Pl.Sec
  | 0, p, e, acc => if e = 0 ∧ p < l.length then (8, acc) else (e, acc)
  | k + 1, p, e, acc => if e = 0 ∧ p < l.length then fGo l k (fSec l p e).2.1 (fSec l p e).2.2 (acc ++ [(fSec l p e).1]) else (e, acc)
/-- The version, the sections, the error of a frame. -/
def fGet (mg l : Pl.Bytes) : Nat × List Pl.Sec × Int :=
  if isPre mg l then
    let c := l.drop mg.length
    let r := cByte c 0 0
    let e1 := if r.1 = 0 then cFail r.2.2 7 else r.2.2
    let q := fGo c 8 r.2.1 e1 []
    if q.1 = 0 then (r.1, q.2, 0) else (0, [], q.1)
  else (0, [], 6)
theorem fGo_end (l : Pl.Bytes) (k p : Nat) (e : Int) (acc : List Pl.Sec) (h : ¬ (e = 0 ∧ p < l.length)) : fGo l k p e acc = (e, acc) := by
  cases k <;> unfold fGo <;> rw [if_neg h]
theorem fGo_full (l : Pl.Bytes) (p : Nat) (e : Int) (acc : List Pl.Sec) (h : e = 0 ∧ p < l.length) : fGo l 0 p e acc = (8, acc) := by
  unfold fGo; rw [if_pos h]
theorem fGo_step (l : Pl.Bytes) (k p : Nat) (e : Int) (acc : List Pl.Sec) (h : e = 0 ∧ p < l.length) : fGo l (k + 1) p e acc = fGo l k (fSec l p e).2.1 (fSec l p e).2.2 (acc ++ [(fSec l p e).1]) := by
  conv => lhs; unfold fGo
  rw [if_pos h]
set_option maxRecDepth 100000 in
theorem infoSec : (Tryd.prog.info? 48).map (fun i => (i.zero, i.size, i.bytes)) = some (some (.agg #[.int .i64 0, .string ⟨#[]⟩]), 2, 24) := rfl
theorem fSec_bd (l : Pl.Bytes) (p : Nat) (e : Int) (h : p ≤ l.length) : (fSec l p e).2.1 ≤ l.length := by
  unfold fSec
  have b1 := (cByte_bd l p e h).2
  have b2 := (cUint_bd l (cByte l p e).2.1 (if (cByte l p e).1 = 0 then cFail (cByte l p e).2.2 4 else (cByte l p e).2.2) 16777216 b1).2.2
  have b3 := fun e2 n => (cBytes_bd l (cUint l (cByte l p e).2.1 (if (cByte l p e).1 = 0 then cFail (cByte l p e).2.2 4 else (cByte l p e).2.2) 16777216).2.1 e2 n b2).2
  exact (cBytes_bd l _ _ 4 (b3 _ _)).2
def slen : Value → Nat | .slice _ n _ => n | _ => 0
theorem cut_no {p l : Pl.Bytes} (h : isPre p l = false) : cutPre p l = (l, false) := by unfold cutPre; rw [h]; rfl
theorem cut_yes {p l : Pl.Bytes} (h : isPre p l = true) : cutPre p l = (l.drop p.length, true) := by unfold cutPre; rw [if_pos h]

set_option maxHeartbeats 1000000 in
set_option maxRecDepth 100000 in
theorem frame_get_no (m b : ByteArray) (w : World) (hm : m.size = 4) (hp : isPre m.data.toList b.data.toList = false) :
    Calls Tryd.prog 22 #[.string m, .string b] w fun en w' => en = .returned (.tuple #[.int .i64 0, .slice none 0 0, .int .i64 6]) ∧ w = w' := by
  have hm1 : ((m.size : Int) != 4) = false := by rw [bne_eq_false_iff_eq]; omega
  have hm2 : (m.size != 4) = false := by rw [bne_eq_false_iff_eq]; omega
  have HC := Lib.hid (cut_pre b m w)
  rw [cut_no hp] at HC
  go_enter Tryd.func22, Tryd.ntmps22
  go_wp2_with fail
  refine HC.out.mono ?_
  rintro en w1 ⟨rfl, rfl⟩
  clear HC
  go_wp2_with fail
  go_ret3
  exact ⟨rfl, rfl⟩

set_option maxHeartbeats 2000000 in
set_option maxRecDepth 100000 in
theorem frame_get (m b : ByteArray) (w : World) (hm : m.size = 4) (hb : b.size ≤ 140737488355328) :
    Calls Tryd.prog 22 #[.string m, .string b] w fun en w' => (∃ v, en = .returned (.tuple #[.int .i64 (fGet m.data.toList b.data.toList).1, v, .int .i64 (fGet m.data.toList b.data.toList).2.2]) ∧
      w'.ownsRow w.heap.size 48 2 v (fGet m.data.toList b.data.toList).2.1.length (secCells (fGet m.data.toList b.data.toList).2.1)) ∧ Below w.heap.size w w' := by
  by_cases hp : isPre m.data.toList b.data.toList = true
  rotate_left
  · have hp' : isPre m.data.toList b.data.toList = false := by simpa using hp
    have hf : fGet m.data.toList b.data.toList = (0, [], 6) := by unfold fGet; rw [if_neg hp]
    refine (frame_get_no m b w hm hp').mono ?_
    rintro en w1 ⟨rfl, rfl⟩
    rw [hf]
    exact ⟨⟨_, rfl, own_none _ _ _ _⟩, Below.refl _ _⟩
  have hm1 : ((m.size : Int) != 4) = false := by rw [bne_eq_false_iff_eq]; omega
  have hm2 : (m.size != 4) = false := by rw [bne_eq_false_iff_eq]; omega
  have HC := Lib.hid (cut_pre b m w)
  rw [cut_yes hp] at HC
  have hf : fGet m.data.toList b.data.toList = (let r := cByte (b.data.toList.drop m.data.toList.length) 0 0
    let e1 := if r.1 = 0 then cFail r.2.2 7 else r.2.2
    let q := fGo (b.data.toList.drop m.data.toList.length) 8 r.2.1 e1 []
    if q.1 = 0 then (r.1, q.2, 0) else (0, [], q.1)) := by unfold fGet; rw [if_pos hp]
  have HF := Lib.hid hf
  clear hf
  have hcb : (b.data.toList.drop m.data.toList.length).length ≤ 140737488355328 := by simp; omega
  obtain ⟨C, hC⟩ : ∃ C : ByteArray, C = Pl.str (b.data.toList.drop m.data.toList.length) := ⟨_, rfl⟩
  have hCl : b.data.toList.drop m.data.toList.length = C.data.toList := by rw [hC]; rfl
  have hCs : C.data.toList.length = C.size := by simp
  rw [← hC] at HC
  rw [hCl] at HF hcb
  rw [hCs] at hcb
  clear hCl hC
  obtain ⟨r1, hr1⟩ : ∃ r, r = cByte C.data.toList 0 0 := ⟨_, rfl⟩
  have bd1 := cByte_bd C.data.toList 0 0 (by omega)
  have HN1 : Hid (∀ g w1, CurAt w1 g C (0 : Nat) 0 → Calls Tryd.prog 39 #[.pointer (some ⟨g, 0, none⟩)] w1 fun en w' => en = .returned (.int .u8 r1.1) ∧ CurAt w' g C r1.2.1 r1.2.2 ∧ Upd (· = g) w1 w') := fun g w1 h => by subst hr1; exact cur_byte g C 0 0 w1 h (by omega) hcb
  rw [← hr1, hCs] at bd1
  obtain ⟨id, p1, e1⟩ := r1
  obtain ⟨bd1a, bd1b⟩ := bd1
  simp only at bd1a bd1b
  obtain ⟨E1, hE1⟩ : ∃ E, E = (if id = 0 then cFail e1 7 else e1) := ⟨_, rfl⟩
  have HV : Hid (fGet m.data.toList b.data.toList = if (fGo C.data.toList 8 p1 E1 []).1 = 0 then (id, (fGo C.data.toList 8 p1 E1 []).2, 0) else (0, [], (fGo C.data.toList 8 p1 E1 []).1)) := by
    unfold Hid; rw [HF.out]; simp only [← hr1, ← hE1]
  have HE1 := Lib.hid hE1
  clear hr1 hE1 HF
  generalize fGet m.data.toList b.data.toList = FG at *
  go_enter Tryd.func22, Tryd.ntmps22
  go_wp2_with fail
  refine HC.out.mono ?_
  rintro en w1 ⟨rfl, rfl⟩
  clear HC
  go_wp2_with fail
  refine (cur_new C w).mono ?_
  rintro en w1 ⟨rfl, hq, hB, hz⟩
  have hlt : w.heap.size < w1.heap.size := by omega
  go_wp2_with fail
  refine (HN1.out _ _ hq).mono ?_
  rintro en w2 ⟨rfl, hq2, hu2⟩
  replace hB : Below w.heap.size w w2 := Upd.below hB hu2 (by omega) (fun i hi => by omega)
  clear hq hu2 hz hlt HN1
  go_wp2_with fail
  focus
    have hid : id = 0 := by have hc := ‹((id : Int) == 0) = true›; simpa using hc
    refine (cur_fail _ C p1 e1 7 w2 hq2).mono ?_
    rintro en w3 ⟨rfl, hq, hu⟩
    replace hB : Below w.heap.size w w3 := Upd.below hB hu hB.size (fun i hi => by omega)
    have HS : CurAt w3 w.heap.size C p1 E1 := by rw [HE1.out, if_pos hid]; exact hq
    clear hq hq2 hu hid HE1
    go_wp2_with fail
  rotate_left
  focus
    have hid : ¬ id = 0 := by have hc := ‹((id : Int) == 0) = false›; simpa using hc
    have HS : CurAt w2 w.heap.size C p1 E1 := by rw [HE1.out, if_neg hid]; exact hq2
    rw [‹((id : Int) == 0) = false›]
    clear hq2 hid HE1
  all_goals
    go_loopw [11] (fun v wr => ∃ (acc : List Pl.Sec) (p : Nat) (e : Int), acc.length ≤ 8 ∧ p ≤ C.size ∧ wr.ownsRow w.heap.size 48 2 v acc.length (secCells acc) ∧ CurAt wr w.heap.size C p e ∧ Below w.heap.size w wr ∧ Hid (fGo C.data.toList (8 - acc.length) p e acc = fGo C.data.toList 8 p1 E1 [])) (fun v _ => 9 - slen v)
    case atStart => exact ⟨[], p1, E1, by simp, bd1b, own_none _ _ _ _, HS, hB, rfl⟩
    case round =>
      clear HS hB
      obtain ⟨acc, p, e, ha, hpc, hown, hcur, hB, HL⟩ := hrel
      obtain ⟨A, cap, rfl⟩ := own_slice hown
      go_wp2_with fail
      refine (cur_err _ C p e wr hcur).mono ?_
      rintro en w3 ⟨rfl, rfl⟩
      have HLE : ∀ h : ¬ (e = 0 ∧ p < C.size), Hid (fGo C.data.toList 8 p1 E1 [] = (e, acc)) := fun h => by
        have := HL.out; rw [fGo_end _ _ _ _ _ (by rw [hCs]; exact h)] at this; exact this.symm
      by_cases he : e = 0
      rotate_left
      · have heb : (e == 0) = false := by simpa using he
        have hen : (e != 0) = true := by simpa using he
        have HX := HLE (fun h => he h.1)
        have HV2 : Hid (FG = (0, [], e)) := by unfold Hid; rw [HV.out, HX.out, if_neg he]
        clear HV HX HLE HL hown
        go_wp2_with fail
        refine (cur_err _ C p e wr hcur).mono ?_
        rintro en w3 ⟨rfl, rfl⟩
        go_wp2_with fail
        go_ret3
        rw [HV2.out]
        exact ⟨⟨_, rfl, own_none _ _ _ _⟩, hB⟩
      have heb : (e == 0) = true := by simpa using he
      have hen : (e != 0) = false := by simpa using he
      go_wp2_with fail
      refine (cur_left _ C p e wr hcur hpc hcb).mono ?_
      rintro en w3 ⟨k, rfl, rfl⟩
      replace hcur := hcur.drewN k
      replace hB := bel_drewN hB k
      replace hown := (((Upd.refl (fun _ => False) wr).drewN k).own hown (fun _ _ h => h))
      generalize wr.drewN k = w3 at *
      by_cases hps : p < C.size
      rotate_left
      · have hgt : decide ((0 : Int) < C.size - p) = false := decide_eq_false (by omega)
        have HX := HLE (fun h => hps h.2)
        have HV2 : Hid (FG = (id, acc, 0)) := by unfold Hid; rw [HV.out, HX.out, if_pos he]
        clear HV HX HLE HL
        go_wp2_with fail
        refine (cur_err _ C p e w3 hcur).mono ?_
        rintro en w4 ⟨rfl, rfl⟩
        go_wp2_with fail
        go_ret3
        rw [HV2.out]
        exact ⟨⟨_, rfl, hown⟩, hB⟩
      have hgt : decide ((0 : Int) < C.size - p) = true := decide_eq_true (by omega)
      by_cases h8 : acc.length = 8
      · have h8b : ((acc.length : Int) == 8) = true := by simp [h8]
        have h8n : (acc.length == 8) = true := by simp [h8]
        have HV2 : Hid (FG = (0, [], 8)) := by
          have HX := HL.out
          rw [h8, Nat.sub_self, fGo_full _ _ _ _ ⟨he, by rw [hCs]; exact hps⟩] at HX
          unfold Hid; rw [HV.out, ← HX]; exact if_neg (by decide : ¬ (8 : Int) = 0)
        clear HV HLE HL
        go_wp2_with fail
        go_ret3
        rw [HV2.out]
        exact ⟨⟨_, rfl, own_none _ _ _ _⟩, hB⟩
      have h8b : ((acc.length : Int) == 8) = false := by rw [beq_eq_false_iff_ne]; omega
      have h8n : (acc.length == 8) = false := by rw [beq_eq_false_iff_ne]; omega
      clear HLE
      go_wp2_with fail
      refine (frame_section _ C p e w3 hcur hpc hcb).mono ?_
      rintro en w4 ⟨rfl, hcur4, hu⟩
      have hne := own_notRow hown (notRow_of hcur (by decide))
      have hown4 := hu.own hown (fun i hi hs => hne (by rw [hi, hs]))
      have hB4 : Below w.heap.size w w4 := Upd.below hB hu hB.size (fun i hi => by omega)
      have hne4 := own_notRow hown4 (notRow_of hcur4 (by decide))
      have HL4 : Hid (fGo C.data.toList (8 - (acc.length + 1)) (fSec C.data.toList p e).2.1 (fSec C.data.toList p e).2.2 (acc ++ [(fSec C.data.toList p e).1]) = fGo C.data.toList 8 p1 E1 []) := by
        have := HL.out; rw [show 8 - acc.length = (8 - (acc.length + 1)) + 1 from by omega, fGo_step _ _ _ _ _ ⟨he, by rw [hCs]; exact hps⟩] at this; exact this
      have hbd := fSec_bd C.data.toList p e (by omega)
      rw [hCs] at hbd
      clear hu hown hB hcur HL hne
      generalize fSec C.data.toList p e = R at *
      obtain ⟨S, p', e'⟩ := R
      go_wp2_with (at_builtin; refine app_new (.tmp 46) (.tmp 49) 49 48 (.agg #[.int .i64 0, .string ⟨#[]⟩]) 2 24 Tryd.underlying49 infoSec rfl (by decide) rfl rfl rfl hown4 hB4.size [.int .i64 S.id, .string (Pl.str S.pay)] 1 rfl rfl ?c2 ?c3 (by decide) ?_; (case c2 => simp [Value.oneCell']); (case c3 => omega); intro v' w5 hown5 hupd)
      have hz4 := hB4.size
      have hcur5 : CurAt w5 w.heap.size C p' e' := hcur4.upd hupd hne4
      have hB5 : Below w.heap.size w w5 := Upd.below hB4 hupd hB4.size (fun i hi => own_ge hown4 i hi)
      have hown5' : w5.ownsRow w.heap.size 48 2 v' (acc ++ [S]).length (secCells (acc ++ [S])) := by rw [secCells_snoc]; simpa using hown5
      have HL5 : Hid (fGo C.data.toList (8 - (acc ++ [S]).length) p' e' (acc ++ [S]) = fGo C.data.toList 8 p1 E1 []) := by rw [List.length_append]; exact HL4.out
      have hl8 : (acc ++ [S]).length ≤ 8 := by simp; omega
      have hl9 : slen v' = acc.length + 1 := by obtain ⟨A', c', rfl⟩ := own_slice hown5; rfl
      clear hown5 hupd hcur4 hown4 HL4 hB4
      go_roundw
      case rel => exact ⟨acc ++ [S], p', e', hl8, hbd, hown5', hcur5, hB5, HL5⟩
      case measure => simp only [slen] at hl9 ⊢; omega
end Go.Proofs.YtdejljgoebcmpaaDoor
