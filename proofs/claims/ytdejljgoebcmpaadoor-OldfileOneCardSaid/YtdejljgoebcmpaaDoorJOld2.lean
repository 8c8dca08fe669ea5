/- Texts of mine, joined: what the functions compute that the law reaches, each under its own conditions, and plain lemmas on it. -/
import Derived.Test.YtdejljgoebcmpaaDoorProg
import Derived.Test.YtdejljgoebcmpaaDoorJOld1
import Derived.Deep.DeepCutAuto
import Derived.Lib.SliceRun
import Derived.Deep.RegionHeld3
import Derived.StillTailTactics
import Derived.Test.YtdejljgoebcmpaaDoorRows
import Derived.ChangeArms
import Derived.DataReads
import Derived.Carry
import Derived.OpenShut
import Derived.Lib.SmallJoins
import Derived.Lib.LaidIn
import Derived.Lib.LaidU8T
import Derived.Test.YtdejljgoebcmpaaDoorCards
import Derived.Test.YtdejljgoebcmpaaDoorTie
import Derived.WalkKit
import Derived.ProofKit
import Derived.Deep.DeepHandedRow
import Derived.Deep.DeepWitnessRowRef
import Derived.Lib.LaidTab
import Derived.Lib.OthersKept
import Derived.Lib.TrimU
import Derived.Lib.TrimUEq
import Derived.Deep.LoopGhost
import Derived.Orders
import Derived.StringKeys
/- graph.order. -/
namespace Go.Proofs.YtdejljgoebcmpaaDoor
open Go.RowKit

set_option maxHeartbeats 4000000 in
set_option maxRecDepth 100000 in
theorem gr_order (v : Value) (root : Int) (l : List Pl.Node) (w : World) (hv : RNodes w v l) (hl : l.length ≤ 1048576) (hk : ∀ x ∈ l, x.kids.length ≤ 1048576) (hr : Pl.Refs l) :
    Calls Tryd.prog 50 #[.agg #[v, .int .i64 root]] w fun en w' => (∃ u out, en = .returned u ∧ w'.ownsRow w.heap.size 3 1 u out.length (i64s out) ∧ Pl.IsOrder l out) ∧ Below w.heap.size w w' := by
  have hm1 := make_ints l.length hl
  have hm2 := make_rows l.length hl
  obtain ⟨A, c, rfl, hA⟩ := hv
  have HA := Lib.hid hA
  have HR := Lib.hid hr
  have HK := Lib.hid hk
  have hB0 : Below w.heap.size w (((w.alloc (.cells #[.slice A l.length c, .int .i64 root] 24)).alloc (.cells (rowOf l.length fun _ => .slice none 0 0) 41)).alloc (.cells (rowOf l.length fun _ => .int .i64 0) 3)) :=
    (((Below.refl _ _).alloc (Nat.le_refl _) _).alloc (by simp) _).alloc (by simp; omega) _
  have hR0 : (((w.alloc (.cells #[.slice A l.length c, .int .i64 root] 24)).alloc (.cells (rowOf l.length fun _ => .slice none 0 0) 41)).alloc (.cells (rowOf l.length fun _ => .int .i64 0) 3)).heap[w.heap.size]? = some (.cells #[.slice A l.length c, .int .i64 root] 24 (0, 0)) :=
    (Below.heap_alloc _ _ _ (by simp; omega)).trans ((Below.heap_alloc _ _ _ (by simp)).trans (heap_alloc_new w _))
  have hO0 : OSt (((w.alloc (.cells #[.slice A l.length c, .int .i64 root] 24)).alloc (.cells (rowOf l.length fun _ => .slice none 0 0) 41)).alloc (.cells (rowOf l.length fun _ => .int .i64 0) 3)) w.heap.size l.length (w.heap.size + 1) (w.heap.size + 1 + 1) (fun _ => .slice none 0 0) (fun _ => []) (fun _ => 0) (.slice none 0 0) [] := by
    refine ⟨?_, ?_, fun j _ => own_none _ _ _ _, own_none _ _ _ _, fun i j _ _ _ k hk => by simp [Value.ownBlock] at hk, fun i _ => by simp [Value.ownBlock], by simp [Value.ownBlock], fun i _ k hk => by simp [Value.ownBlock] at hk⟩
    · have := heap_alloc_new (w.alloc (.cells #[.slice A l.length c, .int .i64 root] 24)) (.cells (rowOf l.length fun _ => .slice none 0 0) 41)
      rw [show (w.alloc (.cells #[.slice A l.length c, .int .i64 root] 24)).heap.size = w.heap.size + 1 from by simp] at this
      exact (Below.heap_alloc _ _ _ (by simp)).trans this
    · have := heap_alloc_new ((w.alloc (.cells #[.slice A l.length c, .int .i64 root] 24)).alloc (.cells (rowOf l.length fun _ => .slice none 0 0) 41)) (.cells (rowOf l.length fun _ => .int .i64 0) 3)
      rwa [show ((w.alloc (.cells #[.slice A l.length c, .int .i64 root] 24)).alloc (.cells (rowOf l.length fun _ => .slice none 0 0) 41)).heap.size = w.heap.size + 1 + 1 from by simp] at this
  have HB0 := Lib.hid hB0
  have HR0 := Lib.hid hR0
  have HO0 := Lib.hid hO0
  clear hA hk hr hB0 hR0 hO0
  go_enter Tryd.func50, Tryd.ntmps50
  go_wp2_with fail
  go_loopw [5, 24] (fun v5 i wr => ∃ (k : Nat) (par : Nat → List Int) (opn : Nat → Int) (vs : Nat → Value) (out : List Int), k ≤ l.length ∧ i = .int .i64 k ∧ Hid (Pl.O1 l k [] par) ∧ Hid (Pl.OA l k opn out) ∧ Hid (OSt wr w.heap.size l.length (w.heap.size + 1) (w.heap.size + 1 + 1) vs par opn v5 out) ∧
    Hid (wr.heap[w.heap.size]? = some (.cells #[.slice A l.length c, .int .i64 root] 24 (0, 0))) ∧ Hid (Below w.heap.size w wr)) (fun _ i _ => l.length - (intOf i).toNat)
  case atStart => exact ⟨0, _, _, _, [], by omega, rfl, Pl.O1.start l, Pl.OA.start l, HO0, HR0, HB0⟩
  case round =>
    clear HB0 HR0 HO0
    obtain ⟨k, par, opn, vs, out, hkl, rfl, hO1, hOA, hSt, hRow, hb⟩ := hrel
    by_cases hlt : k < l.length
    · obtain ⟨ad, hAe, hca⟩ := HA.out (by omega)
      subst hAe
      obtain ⟨vi, vt, vk, h0, h1, h2, h3, hi, ht, hkk⟩ := ((hca k hlt).below hb.out)
      obtain ⟨_, _, vk', _, _, _, h3', _, _, hkk'⟩ := hca k hlt
      obtain rfl : vk = vk' := by
        have := (hb.out.cell (World.block_lt_of_cell? w _ h3')).trans h3'
        rw [h3] at this; exact Option.some.inj this
      have tl : decide ((k : Int) < l.length) = true := decide_eq_true (by omega)
      have hn := HK.out _ (List.getElem_mem hlt)
      have hka : Hid (Pl.kidsAt l k = l[k].kids) := Pl.kidsAt_get hlt
      have hpl : Hid (∀ y ∈ l[k].kids, Pl.isPlace l.length y) := HR.out _ (List.getElem_mem hlt)
      clear hca
      generalize l[k] = x at *
      obtain ⟨VA, vc, rfl, hkc⟩ := hkk
      obtain ⟨TA, tc, rfl, _⟩ := ht
      obtain ⟨IA, ic, rfl, _⟩ := hi
      have hSt1 := hSt.out.alloc (.cells #[.int .i64 x.kind, .slice IA x.ints.length ic, .slice TA x.texts.length tc, .slice VA x.kids.length vc] 43)
      have oc := hSt1.ocell k hlt
      have ofz := hSt1.ofr k
      have HKC := Lib.hid hkk'
      have HN := Lib.hid hn
      have hu : Upd (· = w.heap.size + 1 + 1) wr (wr.setCell ⟨w.heap.size + 1 + 1, k, none⟩ (.int .i64 x.kids.length)) := Upd.one _ _ _ _
      have hSt2 : Hid (OSt ((wr.setCell ⟨w.heap.size + 1 + 1, k, none⟩ (.int .i64 x.kids.length)).alloc (.cells #[.int .i64 x.kind, .slice IA x.ints.length ic, .slice TA x.texts.length tc, .slice VA x.kids.length vc] 43)) w.heap.size l.length (w.heap.size + 1) (w.heap.size + 1 + 1) vs par (Pl.upd opn k x.kids.length) u5 out) := (hSt.out.setO k x.kids.length).alloc _
      have hNr2 : Hid (((wr.setCell ⟨w.heap.size + 1 + 1, k, none⟩ (.int .i64 x.kids.length)).alloc (.cells #[.int .i64 x.kind, .slice IA x.ints.length ic, .slice TA x.texts.length tc, .slice VA x.kids.length vc] 43)).heap[wr.heap.size]? = some (.cells #[.int .i64 x.kind, .slice IA x.ints.length ic, .slice TA x.texts.length tc, .slice VA x.kids.length vc] 43 (0, 0))) := by
        have := heap_alloc_new (wr.setCell ⟨w.heap.size + 1 + 1, k, none⟩ (.int .i64 x.kids.length)) (.cells #[.int .i64 x.kind, .slice IA x.ints.length ic, .slice TA x.texts.length tc, .slice VA x.kids.length vc] 43)
        rwa [show (wr.setCell ⟨w.heap.size + 1 + 1, k, none⟩ (.int .i64 x.kids.length)).heap.size = wr.heap.size from by simp] at this
      have hSr2 : Hid (((wr.setCell ⟨w.heap.size + 1 + 1, k, none⟩ (.int .i64 x.kids.length)).alloc (.cells #[.int .i64 x.kind, .slice IA x.ints.length ic, .slice TA x.texts.length tc, .slice VA x.kids.length vc] 43)).heap[w.heap.size]? = some (.cells #[.slice (some ad) l.length c, .int .i64 root] 24 (0, 0))) :=
        (Below.heap_alloc _ _ _ (by have := (Array.getElem?_eq_some_iff.1 hRow.out).1; simpa using this)).trans ((hu.block _ (Array.getElem?_eq_some_iff.1 hRow.out).1 (by omega)).trans hRow.out)
      have hBr2 : Hid (Below w.heap.size w ((wr.setCell ⟨w.heap.size + 1 + 1, k, none⟩ (.int .i64 x.kids.length)).alloc (.cells #[.int .i64 x.kind, .slice IA x.ints.length ic, .slice TA x.texts.length tc, .slice VA x.kids.length vc] 43))) :=
        (Upd.below hb.out hu hb.out.size (fun i hi => by subst hi; omega)).alloc (by have := hb.out.size; simpa using this) _
      have hob := hSt.out.olt
      clear hSt hSt1 hkc hkk' hn hb hRow hu
      go_upto_region 8 with (fail)
      clear oc ofz h0 h1 h2 h3
      generalize (wr.setCell ⟨w.heap.size + 1 + 1, k, none⟩ (.int .i64 x.kids.length)).alloc (.cells #[.int .i64 x.kind, .slice IA x.ints.length ic, .slice TA x.texts.length tc, .slice VA x.kids.length vc] 43) = w2 at *
      have n3 : w2.cell? ⟨wr.heap.size, 3, none⟩ = some (.slice VA x.kids.length vc) := by rw [cell_row hNr2.out]; rfl
      go_wp2_with fail
      clear n3
      go_loopw [9, 38] (fun _ j wi => ∃ (jn : Nat) (par : Nat → List Int) (vs : Nat → Value), jn ≤ x.kids.length ∧ j = .int .i64 jn ∧ Hid (Pl.O1 l k (x.kids.take jn) par) ∧ Hid (OSt wi w.heap.size l.length (w.heap.size + 1) (w.heap.size + 1 + 1) vs par (Pl.upd opn k x.kids.length) u5 out) ∧
        Hid (wi.heap[w.heap.size]? = some (.cells #[.slice (some ad) l.length c, .int .i64 root] 24 (0, 0))) ∧ Hid (Below w.heap.size w wi)) (fun _ j _ => x.kids.length - (intOf j).toNat)
      case atStart => exact ⟨0, par, vs, by omega, rfl, hO1, hSt2, hSr2, hBr2⟩
      case round =>
        clear hO1 hSt2 hNr2 hSr2 hBr2
        obtain ⟨jn, par, vs, hjn, rfl, hO1, hSt, hSr, hBr⟩ := hrel
        by_cases hj : jn < x.kids.length
        · have tj : decide ((jn : Int) < x.kids.length) = true := decide_eq_true (by omega)
          have HJ : Hid (jn < x.kids.length) := hj
          have hjb : jn ≤ 1048576 := by have := HN.out; omega
          obtain ⟨VA', vc', hve, hkc⟩ := HKC.out.below hBr.out
          cases hve
          obtain ⟨kd, rfl, hkc2⟩ := hkc (by omega)
          have e1 := hkc2 jn hj
          have hp := hpl.out _ (List.getElem_mem hj)
          have hO1' := hO1.out
          have htk : x.kids.take (jn + 1) = x.kids.take jn ++ [x.kids[jn]] := List.take_succ_eq_append_getElem hj
          clear hkc hkc2 hO1
          generalize x.kids[jn] = kv at *
          unfold Pl.isPlace at hp
          obtain ⟨kn, rfl⟩ : ∃ kn : Nat, kv = kn := ⟨kv.toNat, by omega⟩
          have hkn : kn < l.length := by omega
          have tk1 : decide ((kn : Int) < l.length) = true := decide_eq_true (by omega)
          have hst := hO1'.step hlt kn
          rw [← htk] at hst
          have HST := Lib.hid hst
          have hlen := hO1'.len kn hkn
          have p1 := hSt.out.pcell kn hkn
          have HL : Hid (((par kn).length + 1) * 8 ≤ 140737488355328) := by
            have := HN.out
            unfold Hid
            rw [List.length_take] at hlen
            omega
          clear hO1' hst htk hlen
          have hB2 : Hid (w.heap.size ≤ wr.heap.size) := hBr.out.size
          go_wp2_with (at_builtin; refine app_new_at (.tmp 47) (.tmp 49) 41 3 (.int .i64 0) 1 8 Tryd.underlying41 infoInt rfl (by decide) rfl rfl rfl (hSt.out.own kn hkn) hB2.out [.int .i64 k] 1 rfl rfl ?c2 ?c3 (by decide) ?_; (case c2 => simp [Value.oneCell']); (case c3 => exact HL.out))
          intro v3 w3 hO4 hU4 hB4
          obtain ⟨A3, c3, rfl⟩ := own_slice hO4
          have hP2 : Hid (OSt _ _ _ _ _ _ _ _ _ _) := hSt.out.appP hkn hU4 hO4 (hB4.imp id fun h => ⟨_, Nat.le_succ _, h⟩)
          have hpr : w3.heap[w.heap.size + 1]? = some (.cells (rowOf l.length vs) 41 (0, 0)) := (hU4.block _ hSt.out.plt (hSt.out.vpb hkn)).trans hSt.out.prow
          have pc3 : w3.cell? ⟨w.heap.size + 1, kn, none⟩ = some (vs kn) := by rw [cell_row hpr, rowOf_get l.length vs kn hkn]
          have pf3 : w3.frozen? ⟨w.heap.size + 1, kn, none⟩ = false := frozen4 hpr kn
          have hSr3 : Hid ((w3.setCell ⟨w.heap.size + 1, kn, none⟩ (.slice A3 ((par kn).length + 1) c3)).heap[w.heap.size]? = some (.cells #[.slice (some ad) l.length c, .int .i64 root] 24 (0, 0))) :=
            ((Upd.one w3 (w.heap.size + 1) kn (.slice A3 ((par kn).length + 1) c3)).block _ (by have := hU4.size; have := (Array.getElem?_eq_some_iff.1 hSr.out).1; omega) (by omega)).trans ((hU4.block _ (Array.getElem?_eq_some_iff.1 hSr.out).1 (own_notRow (hSt.out.own kn hkn) (notRow_of hSr.out (by decide)))).trans hSr.out)
          have hBr3 : Hid (Below w.heap.size w (w3.setCell ⟨w.heap.size + 1, kn, none⟩ (.slice A3 ((par kn).length + 1) c3))) := (Upd.below hBr.out hU4 hBr.out.size (own_ge (hSt.out.own kn hkn))).setCell (by simp) _
          clear hO4 hU4 hB4 hpr hSt hSr hBr p1
          go_wp2_with fail
          go_roundw
          case rel => exact ⟨jn + 1, _, _, HJ.out, by go_num, HST, hP2, hSr3, hBr3⟩
          case measure => have := HJ.out; simp [intOf]; omega
        · obtain rfl : jn = x.kids.length := by omega
          have hO1' := hO1.out
          rw [List.take_length] at hO1'
          rw [← hka.out] at hO1'
          have HO1 : Hid (Pl.O1 l (k + 1) [] par) := hO1'.next (by rw [hka.out]; exact HN.out)
          clear hO1 hO1'
          have oc := hSt.out.ocell k hlt
          rw [Pl.upd_same] at oc
          have hB2 : Hid (w.heap.size ≤ wr.heap.size) := hBr.out.size
          by_cases hnil : x.kids.length = 0
          · have hkz : x.kids = [] := List.eq_nil_of_length_eq_zero hnil
            have HOA : Hid (Pl.OA l (k + 1) (Pl.upd opn k x.kids.length) (out ++ [(k : Int)])) := by
              have := hOA.out.none (by rw [hka.out]; exact hkz)
              rw [hkz]; exact this
            have hol := Pl.nodup_len hOA.out.nd (n := l.length) (fun y hy => by obtain ⟨m, e, hm, _⟩ := (hOA.out.out y).1 hy; unfold Pl.isPlace; omega)
            rw [hnil] at oc
            have HOL := Lib.hid hol
            have HNil := Lib.hid hnil
            clear hkz hOA hol hnil
            go_wp2_with (at_builtin; refine app_new_at (.tmp 58) (.tmp 60) 41 3 (.int .i64 0) 1 8 Tryd.underlying41 infoInt rfl (by decide) rfl rfl rfl hSt.out.vown hB2.out [.int .i64 k] 1 rfl rfl ?c2 ?c3 (by decide) ?_; (case c2 => simp [Value.oneCell']); (case c3 => have := HOL.out; omega))
            intro v3 w3 hO4 hU4 hB4
            obtain ⟨A3, c3, rfl⟩ := own_slice hO4
            have hP2 : Hid (OSt w3 _ _ _ _ _ _ _ _ _) := hSt.out.appO hU4 hO4 (hB4.imp id fun h => ⟨_, Nat.le_succ _, h⟩)
            have hSr3 : Hid (w3.heap[w.heap.size]? = some (.cells #[.slice (some ad) l.length c, .int .i64 root] 24 (0, 0))) := (hU4.block _ (Array.getElem?_eq_some_iff.1 hSr.out).1 (own_notRow hSt.out.vown (notRow_of hSr.out (by decide)))).trans hSr.out
            have hBr3 : Hid (Below w.heap.size w w3) := Upd.below hBr.out hU4 hBr.out.size (own_ge hSt.out.vown)
            clear hO4 hU4 hB4 hSt hSr hBr oc
            go_wp2_with fail
            go_roundw
            case rel => exact ⟨k + 1, par, _, vs, _, by omega, by go_num, HO1, HOA, hP2, hSr3, hBr3⟩
            case measure => simp [intOf]; omega
          · have HOA : Hid (Pl.OA l (k + 1) (Pl.upd opn k x.kids.length) out) := by
              have := hOA.out.some (by rw [hka.out]; exact fun e => hnil (by rw [e]; rfl))
              rw [hka.out] at this; exact this
            have tz : ((x.kids.length : Int) == 0) = false := by simpa using hnil
            have HNil := Lib.hid hnil
            clear hOA hnil
            go_wp2_with fail
            go_roundw
            case rel => exact ⟨k + 1, par, _, vs, _, by omega, by go_num, HO1, HOA, hSt, hSr, hBr⟩
            case measure => simp [intOf]; omega
    · obtain rfl : k = l.length := by omega
      go_wp2_with fail
      go_loopw [5, 10] (fun v5 i wr => ∃ (a : Nat) (opn : Nat → Int) (out : List Int), a ≤ out.length ∧ out.length ≤ l.length ∧ i = .int .i64 a ∧ Hid (Pl.O2 l (out.take a) [] opn out) ∧ Hid (OSt wr w.heap.size l.length (w.heap.size + 1) (w.heap.size + 1 + 1) vs par opn v5 out) ∧ Hid (Below w.heap.size w wr)) (fun _ i _ => l.length - (intOf i).toNat)
      case atStart => exact ⟨0, opn, out, by omega, Pl.nodup_len hOA.out.nd hOA.out.place, rfl, Pl.O2.start hOA.out, hSt, hb⟩
      case round =>
        clear hOA hSt hRow hb
        obtain ⟨a, opn, out, ha, hol, rfl, hO2, hSt, hb⟩ := hrel
        by_cases hlt : a < out.length
        · obtain ⟨G, cap, rfl⟩ : ∃ G cap, u5 = .slice (some ⟨G, 0, none⟩) out.length cap := by
            rcases hSt.out.vown.2 with ⟨_, h0⟩ | ⟨g, cap, cur, rfl, _⟩
            · omega
            · exact ⟨_, _, rfl⟩
          have e1 : wr.cell? ⟨G, a, none⟩ = some (.int .i64 out[a]) := by
            rw [hSt.out.vown.cellAt a (by omega)]; exact i64s_get out a hlt
          have hp := hO2.out.place _ (List.getElem_mem hlt)
          have hdr : out = out.take a ++ out[a] :: out.drop (a + 1) := Pl.take_mid _ _ hlt
          have HLT : Hid (a < out.length) := hlt
          have tl : decide ((a : Int) < out.length) = true := decide_eq_true (by omega)
          have tl2 : decide (a < out.length) = true := decide_eq_true (by omega)
          generalize hP : out.take a = P at *
          generalize out[a] = cv at *
          generalize out.drop (a + 1) = rest at *
          have HP := Lib.hid hP
          have HDR := Lib.hid hdr
          clear hP hdr
          unfold Pl.isPlace at hp
          obtain ⟨cn, rfl⟩ : ∃ cn : Nat, cv = cn := ⟨cv.toNat, by omega⟩
          have hcn : cn < l.length := by omega
          have tc : decide ((cn : Int) < l.length) = true := decide_eq_true (by omega)
          have hcP : Hid ((cn : Int) ∉ P) := by
            have := hO2.out.nd
            rw [HDR.out, List.nodup_append] at this
            intro h
            exact this.2.2 _ h _ (by simp) rfl
          have p1 := hSt.out.pcell cn hcn
          obtain ⟨A3, c3, hv3⟩ := own_slice (hSt.out.own cn hcn)
          rw [hv3] at p1
          have HV3 := Lib.hid hv3
          have hPL := hO1.out.len cn hcn
          have hPP := hO1.out.pl cn hcn
          have HPP := Lib.hid hPP
          have HPL : Hid ((par cn).length ≤ 1099512676352) := by unfold Hid; simp only [List.length_nil] at hPL; omega
          clear hv3 hlt hPL hPP
          go_wp2_with fail
          go_loopw [5, 12, 77] (fun v5 _ j wi => ∃ (jn : Nat) (opn : Nat → Int) (out : List Int), jn ≤ (par cn).length ∧ j = .int .i64 jn ∧ out.length ≤ l.length ∧ Hid (Pl.O2 l P ((par cn).take jn) opn out) ∧ Hid (∃ rest, out = P ++ (cn : Int) :: rest) ∧
            Hid (OSt wi w.heap.size l.length (w.heap.size + 1) (w.heap.size + 1 + 1) vs par opn v5 out) ∧ Hid (Below w.heap.size w wi)) (fun _ _ j _ => (par cn).length - (intOf j).toNat)
          case atStart => exact ⟨0, opn, out, by omega, rfl, hol, hO2, ⟨rest, HDR.out⟩, hSt, hb⟩
          case round =>
            clear hO2 hSt hb e1 tl tl2
            obtain ⟨jn, opn, out, hjn, rfl, hol, hO2, hEx, hSt, hb⟩ := hrel
            by_cases hj : jn < (par cn).length
            · have tj : decide ((jn : Int) < (par cn).length) = true := decide_eq_true (by omega)
              have tj2 : decide (jn < (par cn).length) = true := decide_eq_true (by omega)
              have HJ : Hid (jn < (par cn).length) := hj
              obtain ⟨G3, cap3, hve⟩ : ∃ G cap, Value.slice A3 (par cn).length c3 = .slice (some ⟨G, 0, none⟩) (par cn).length cap := by
                have h1 := (hSt.out.own cn hcn).2
                rw [HV3.out] at h1
                rcases h1 with ⟨_, h0⟩ | ⟨g, cap, cur, h0, _⟩
                · omega
                · exact ⟨_, _, h0⟩
              have hoc := hSt.out.own cn hcn
              rw [HV3.out, hve] at hoc
              have e1 := hoc.cellAt jn (by omega)
              rw [i64s_get _ jn hj] at e1
              injection hve with hve1 _ hve2
              subst hve1 hve2
              have hp := HPP.out _ (List.getElem_mem hj)
              have htk : (par cn).take (jn + 1) = (par cn).take jn ++ [(par cn)[jn]] := List.take_succ_eq_append_getElem hj
              have hdr : par cn = (par cn).take jn ++ (par cn)[jn] :: (par cn).drop (jn + 1) := Pl.take_mid _ _ hj
              have hjb : jn ≤ 1099512676352 := by have := HPL.out; omega
              clear hoc
              generalize (par cn)[jn] = pv at *
              unfold Pl.isPlace at hp
              obtain ⟨pn, rfl⟩ : ∃ pn : Nat, pv = pn := ⟨pv.toNat, by omega⟩
              have hpn : pn < l.length := by omega
              have tp : decide ((pn : Int) < l.length) = true := decide_eq_true (by omega)
              have hps := hO2.out.pos hO1.out hcn hcP.out hdr hpn
              have hob : opn pn ≤ 1048576 := by
                have : (Pl.kidsAt l pn).length ≤ 1048576 := by rw [Pl.kidsAt_get hpn]; exact HK.out _ (List.getElem_mem hpn)
                omega
              have hob1 := hps.1
              have oc := hSt.out.ocell pn hpn
              have ofz := hSt.out.ofr pn
              have HDR2 := Lib.hid hdr
              have HTK := Lib.hid htk
              have hS2 := hSt.out.setO pn (opn pn - 1)
              have hu : Upd (· = w.heap.size + 1 + 1) wr (wr.setCell ⟨w.heap.size + 1 + 1, pn, none⟩ (.int .i64 (opn pn - 1))) := Upd.one _ _ _ _
              have hB2 : Hid (Below w.heap.size w (wr.setCell ⟨w.heap.size + 1 + 1, pn, none⟩ (.int .i64 (opn pn - 1)))) := Upd.below hb.out hu hb.out.size (fun i hi => by subst hi; omega)
              have oc2 := hS2.ocell pn hpn
              rw [Pl.upd_same] at oc2
              have HS2 := Lib.hid hS2
              clear hdr htk hps hu hS2 hSt hb hjn
              by_cases hz : opn pn - 1 = 0
              · have tz : ((opn pn - 1) == 0) = true := by simpa using hz
                have HN : Hid (Pl.O2 l P ((par cn).take (jn + 1)) (Pl.upd opn pn (opn pn - 1)) (out ++ [(pn : Int)])) := by
                  unfold Hid; rw [HTK.out]
                  refine hO2.out.grow HR.out hO1.out hcn hcP.out HDR2.out hpn hz fun k hk => ?_
                  obtain ⟨rest, he⟩ := hEx.out
                  rw [he]
                  rcases hk with hk | rfl
                  · exact List.mem_append_left _ hk
                  · simp
                have HEX : Hid (∃ rest, out ++ [(pn : Int)] = P ++ (cn : Int) :: rest) := by
                  obtain ⟨rest, he⟩ := hEx.out
                  exact ⟨rest ++ [(pn : Int)], by rw [he]; simp⟩
                have HOL : Hid ((out ++ [(pn : Int)]).length ≤ l.length) := Pl.nodup_len HN.out.nd HN.out.place
                have hbz : Hid (w.heap.size ≤ (wr.setCell ⟨w.heap.size + 1 + 1, pn, none⟩ (.int .i64 (opn pn - 1))).heap.size) := hB2.out.size
                have h1 : opn pn = 1 := by omega
                rw [hz] at HS2 hB2 hbz oc2 HN
                have HSE : Hid (wr.heap.size = (wr.setCell ⟨w.heap.size + 1 + 1, pn, none⟩ (.int .i64 0)).heap.size) := by unfold Hid; simp
                rw [h1] at oc
                clear hz h1 hob hob1 tz
                go_wp2_with (at_builtin; refine app_new_at (.tmp 92) (.tmp 94) 41 3 (.int .i64 0) 1 8 Tryd.underlying41 infoInt rfl (by decide) rfl rfl rfl HS2.out.vown hbz.out [.int .i64 pn] 1 rfl (congrArg (fun b => Value.slice (some ⟨b, 0, none⟩) 1 1) HSE.out) ?c2 ?c3 (by decide) ?_; (case c2 => simp [Value.oneCell']); (case c3 => omega))
                intro v3 w3 hO4 hU4 hB4
                obtain ⟨A5, c5, rfl⟩ := own_slice hO4
                have hP2 : Hid (OSt w3 _ _ _ _ _ _ _ _ _) := HS2.out.appO hU4 hO4 (hB4.imp id fun h => ⟨_, by rw [← HSE.out]; exact Nat.le_succ _, h⟩)
                have hBr3 : Hid (Below w.heap.size w w3) := Upd.below hB2.out hU4 hB2.out.size (own_ge HS2.out.vown)
                clear hO4 hU4 hB4 HS2 hB2 oc oc2 ofz hbz
                go_wp2_with fail
                go_roundw
                case rel => exact ⟨jn + 1, _, _, HJ.out, by go_num, HOL.out, HN, HEX, hP2, hBr3⟩
                case measure => have := HJ.out; simp [intOf]; omega
              · have tz : ((opn pn - 1) == 0) = false := by simpa using hz
                have HN : Hid (Pl.O2 l P ((par cn).take (jn + 1)) (Pl.upd opn pn (opn pn - 1)) out) := by
                  unfold Hid; rw [HTK.out]; exact hO2.out.keep hO1.out hcn hcP.out HDR2.out hpn hz
                clear hz
                generalize hxo : opn pn = xo at *
                go_wp2_with fail
                go_roundw
                case rel => exact ⟨jn + 1, _, out, HJ.out, by go_num, hol, HN, hEx, HS2, hB2⟩
                case measure => have := HJ.out; simp [intOf]; omega
            · obtain rfl : jn = (par cn).length := by omega
              have h2 := hO2.out
              rw [List.take_length] at h2
              have h3 := Lib.hid (h2.next hO1.out hcn hcP.out)
              obtain ⟨rest, he⟩ := hEx.out
              have hPl : P.length = a := by rw [← HP.out, List.length_take]; have := HLT.out; omega
              have HE : Hid (out.take (a + 1) = P ++ [(cn : Int)]) := by
                unfold Hid
                rw [he, ← hPl]; exact Pl.take_app1 _ _ _
              have HL : Hid (a + 1 ≤ out.length) := by
                unfold Hid; rw [he, ← hPl]; simp
              have hab : a ≤ 1048576 := by have := HL.out; omega
              rw [← HE.out] at h3
              clear h2 hO2 he hPl hEx
              go_wp2_with fail
              go_roundw
              case rel => exact ⟨a + 1, opn, out, HL.out, hol, by go_num, h3, hSt, hb⟩
              case measure => have := HL.out; simp [intOf]; omega
        · obtain rfl : a = out.length := by omega
          have h2 := hO2.out
          rw [List.take_length] at h2
          have HI := Lib.hid h2.done
          have hvo := hSt.out.vown
          obtain ⟨A3, c3, rfl⟩ := own_slice hvo
          have HVO := Lib.hid hvo
          clear h2 hO2 hvo hSt
          go_wp2_with fail
          go_ret
          exact ⟨⟨_, out, rfl, HVO.out, HI.out⟩, hb.out⟩
end Go.Proofs.YtdejljgoebcmpaaDoor
/- slices.Clone of ints. -/
namespace Go.Proofs.YtdejljgoebcmpaaDoor
open Go.RowKit

theorem rnums_cells {w : World} {A : Option Addr} {c : Nat} {l : List Int} (h : RNums w (.slice A l.length c) l) : 0 < l.length → ∃ ad, A = some ad ∧ ∀ j u, (i64s l)[j]? = some u → w.cell? (ad.add j) = some u := by
  obtain ⟨A', c', e, h⟩ := h
  cases e
  intro hl
  obtain ⟨ad, rfl, hc⟩ := h hl
  refine ⟨ad, rfl, fun j u hj => ?_⟩
  have hjl : j < l.length := by
    have := (List.getElem?_eq_some_iff.1 hj).1
    rwa [i64s_len] at this
  rw [i64s_get _ _ hjl] at hj
  cases hj
  exact hc j hjl

set_option maxHeartbeats 1000000 in
set_option maxRecDepth 100000 in
theorem clone_ints (v : Value) (l : List Int) (w : World) (hv : RNums w v l) (hl : l.length ≤ 1048576) :
    Calls Tryd.prog 52 #[v] w fun en w' => (∃ u, en = .returned u ∧ w'.ownsRow w.heap.size 3 1 u l.length (i64s l)) ∧ Below w.heap.size w w' := by
  obtain ⟨A, c, rfl⟩ : ∃ A c, v = .slice A l.length c := by obtain ⟨A, c, rfl, _⟩ := hv; exact ⟨A, c, rfl⟩
  cases A with
  | none =>
    have h0 : l = [] := by
      obtain ⟨_, _, e, h⟩ := hv
      cases e
      rcases Nat.eq_zero_or_pos l.length with h0 | h0
      · exact List.eq_nil_of_length_eq_zero h0
      · obtain ⟨_, e, _⟩ := h h0; cases e
    subst h0
    clear hv
    have q1 := fun (w : World) (a : Option Addr) (n c : Nat) => Lib.run_eql_slice_nil (P := Tryd.prog) w 41 _ a n c 0 0 Tryd.underlying41
    go_enter Tryd.func52, Tryd.ntmps52
    go_wp2_with fail
    go_ret
    exact ⟨⟨_, rfl, own_none _ _ _ _⟩, Below.refl _ _⟩
  | some ad =>
    have hB0 : Below w.heap.size w (w.alloc (.cells #[] 3)) := (Below.refl _ _).alloc (Nat.le_refl _) _
    have HC := Lib.hid (rnums_cells (hv.below hB0))
    have HO : Hid ((w.alloc (.cells #[] 3)).ownsRow w.heap.size 3 1 (.slice (some ⟨w.heap.size, 0, none⟩) 0 0) 0 (i64s [])) := World.ownsRow_lit w #[] 0 (Nat.le_refl _) (by unfold maxLen; omega) (by simp)
    have HB := Lib.hid hB0
    clear hv hB0
    have q1 := fun (w : World) (a : Option Addr) (n c : Nat) => Lib.run_eql_slice_nil (P := Tryd.prog) w 41 _ a n c 0 0 Tryd.underlying41
    go_enter Tryd.func52, Tryd.ntmps52
    go_wp2_with (at_builtin; refine app_row (.tmp 5) (.tmp 6) 41 3 (.int .i64 0) 1 8 Tryd.underlying41 infoInt rfl (by decide) rfl rfl rfl HO.out HB.out.size (i64s l) (by rw [i64s_len]; omega) rfl HC.out (i64s_one _) (by omega) (by decide) ?_)
    intro v3 w3 hO hU _
    have hB := Upd.below HB.out hU HB.out.size (own_ge HO.out)
    have hO2 : w3.ownsRow w.heap.size 3 1 v3 l.length (i64s l) := by simpa [i64s] using hO
    obtain ⟨A3, c3, rfl⟩ := own_slice hO2
    have HO2 := Lib.hid hO2
    clear hO hO2 hU HO HC
    go_wp2_with fail
    go_ret
    exact ⟨⟨_, rfl, HO2.out⟩, hB⟩
end Go.Proofs.YtdejljgoebcmpaaDoor
/- graph.Check. -/
namespace Go.Proofs.YtdejljgoebcmpaaDoor
open Go.RowKit

/-- A scene boxed at g, within a call that began at w. -/
structure ScS (w : World) (g : Nat) (v : Value) (root : Int) (w' : World) : Prop where
  row : w'.heap[g]? = some (.cells #[v, .int .i64 root] 24 (0, 0))
  bel : Below w.heap.size w w'
theorem ScS.box (w : World) (v : Value) (root : Int) : ScS w w.heap.size v root (w.alloc (.cells #[v, .int .i64 root] 24)) := ⟨heap_alloc_new w _, (Below.refl _ _).alloc (Nat.le_refl _) _⟩
theorem ScS.step {w w1 w2 : World} {g : Nat} {v : Value} {root : Int} (h : ScS w g v root w1) (hb : Below w1.heap.size w1 w2) : ScS w g v root w2 :=
  ⟨(hb.block _ (Array.getElem?_eq_some_iff.1 h.row).1).trans h.row, h.bel.trans (hb.mono h.bel.size)⟩
theorem ScS.drew {w w1 : World} {g : Nat} {v : Value} {root : Int} (h : ScS w g v root w1) : ScS w g v root w1.drew := ⟨h.row, h.bel.drew⟩
theorem ScS.c0 {w w1 : World} {g : Nat} {v : Value} {root : Int} (h : ScS w g v root w1) : w1.cell? ⟨g, 0, none⟩ = some v := by rw [cell_row h.row]; rfl
theorem ScS.c1 {w w1 : World} {g : Nat} {v : Value} {root : Int} (h : ScS w g v root w1) : w1.cell? ⟨g, 1, none⟩ = some (.int .i64 root) := by rw [cell_row h.row]; rfl
/-- .. and a node boxed at g. -/
structure ChS (w : World) (v : Value) (root : Int) (g : Nat) (vk : Value) (w' : World) : Prop where
  sc : ScS w w.heap.size v root w'
  kd : w'.cell? ⟨g, 3, none⟩ = some vk
  gt : w.heap.size < g
theorem ChS.lt {w w1 : World} {v : Value} {root : Int} {g : Nat} {vk : Value} (h : ChS w v root g vk w1) : g < w1.heap.size := World.block_lt_of_cell? w1 _ h.kd
theorem ChS.drew {w w1 : World} {v : Value} {root : Int} {g : Nat} {vk : Value} (h : ChS w v root g vk w1) : ChS w v root g vk w1.drew := ⟨h.sc.drew, h.kd, h.gt⟩
theorem ChS.step {w w1 w2 : World} {v : Value} {root : Int} {g : Nat} {vk : Value} (h : ChS w v root g vk w1) (hb : Below w1.heap.size w1 w2) : ChS w v root g vk w2 :=
  ⟨h.sc.step hb, (hb.cell (World.block_lt_of_cell? w1 _ h.kd)).trans h.kd, h.gt⟩
/-- .. and a row of the call's own behind all that. -/
structure RwS (w : World) (v : Value) (root : Int) (g : Nat) (vk u : Value) (l : List Int) (w' : World) : Prop where
  ch : ChS w v root g vk w'
  own : w'.ownsRow w.heap.size 3 1 u l.length (i64s l)
  ub : ∀ k, u.ownBlock = some k → g < k
theorem own_base {w : World} {B B' : Nat} {e : TypeId} {size n : Nat} {v : Value} {xs : List Value} (h : w.ownsRow B e size v n xs) (hb : B' ≤ B) : w.ownsRow B' e size v n xs := by
  obtain ⟨h1, h2⟩ := h
  refine ⟨h1, ?_⟩
  rcases h2 with h2 | ⟨g, cap, cur, hv, hg, r⟩
  · exact .inl h2
  · exact .inr ⟨g, cap, cur, hv, Nat.le_trans hb hg, r⟩
theorem RwS.mk' {w w1 w2 : World} {v : Value} {root : Int} {g : Nat} {vk u : Value} {l : List Int} (h : ChS w v root g vk w1) (hb : Below w1.heap.size w1 w2) (ho : w2.ownsRow w1.heap.size 3 1 u l.length (i64s l)) : RwS w v root g vk u l w2 :=
  ⟨h.step hb, own_base ho h.sc.bel.size, fun k hk => by have := own_ge ho k hk; have := h.lt; omega⟩
theorem RwS.drew {w w1 : World} {v : Value} {root : Int} {g : Nat} {vk u : Value} {l : List Int} (h : RwS w v root g vk u l w1) : RwS w v root g vk u l w1.drew := ⟨h.ch.drew, h.own, h.ub⟩
theorem RwS.upd {w w1 w2 : World} {v : Value} {root : Int} {g : Nat} {vk u : Value} {l : List Int} (h : RwS w v root g vk u l w1) (hU : Upd (fun k => u.ownBlock = some k) w1 w2) : ChS w v root g vk w2 := by
  have h1 := (Array.getElem?_eq_some_iff.1 h.ch.sc.row).1
  refine ⟨⟨(hU.block _ h1 (fun e => by have := h.ub _ e; have := h.ch.gt; omega)).trans h.ch.sc.row, Upd.below h.ch.sc.bel hU h.ch.sc.bel.size (own_ge h.own)⟩, ?_, h.ch.gt⟩
  exact (World.cell?_of_block (a := ⟨g, 3, none⟩) (hU.block g h.ch.lt (fun e => by have := h.ub _ e; omega))).trans h.ch.kd
theorem ret_ii {k1 k2 : IntKind} {a b a' b' : Int} (h1 : a = a') (h2 : b = b') : Ending.returned (.tuple #[.int k1 a, .int k2 b]) = .returned (.tuple #[.int k1 a', .int k2 b']) := by rw [h1, h2]
theorem ret_gc {p : Int × Int} {a b : Int} (h : p = (a, b)) : Ending.returned (.tuple #[.int .i64 a, .int .i64 b]) = .returned (.tuple #[.int .i64 p.1, .int .i64 p.2]) := by rw [h]

set_option maxHeartbeats 4000000 in
set_option maxRecDepth 100000 in
theorem gr_check (v : Value) (root : Int) (l : List Pl.Node) (w : World) (hv : RNodes w v l) (hl : l.length ≤ 1048576) (hk : ∀ x ∈ l, x.kids.length ≤ 1048576) :
    Calls Tryd.prog 26 #[.agg #[v, .int .i64 root]] w fun en w' => en = .returned (.tuple #[.int .i64 (Pl.gCheck l root).1, .int .i64 (Pl.gCheck l root).2]) ∧ Below w.heap.size w w' := by
  have HV := Lib.hid hv
  have HK := Lib.hid hk
  have HS0 := Lib.hid (ScS.box w v root)
  have H1 : Hid (∀ w1, Below w.heap.size w w1 → Calls Tryd.prog 49 #[.agg #[v, .int .i64 root]] w1 fun en w' => en = .returned (.int .i64 (Pl.idxRef l.length l 0)) ∧ Below w1.heap.size w1 w') := fun w1 hb => gr_refs v root l w1 (hv.below hb) (by omega) (fun x hx => by have := hk x hx; omega)
  obtain ⟨A, c, rfl⟩ : ∃ A c, v = .slice A l.length c := by obtain ⟨A, c, rfl, _⟩ := hv; exact ⟨A, c, rfl⟩
  clear hv hk
  by_cases hp : Pl.isPlace l.length root
  rotate_left
  · have HP : Hid (Pl.gCheck l root = (13, -1)) := by unfold Hid Pl.gCheck; rw [if_pos hp]
    unfold Pl.isPlace at hp
    by_cases h1 : root < 0
    · have t1 : decide (root < 0) = true := decide_eq_true h1
      go_enter Tryd.func26, Tryd.ntmps26
      go_wp2_with fail
      go_ret2
      exact ⟨ret_gc HP.out, HS0.out.bel⟩
    · have t1 : decide (root < 0) = false := decide_eq_false h1
      have t2 : decide ((l.length : Int) ≤ root) = true := decide_eq_true (by omega)
      go_enter Tryd.func26, Tryd.ntmps26
      go_wp2_with fail
      go_ret2
      exact ⟨ret_gc HP.out, HS0.out.bel⟩
  have HPl := Lib.hid hp
  unfold Pl.isPlace at hp
  have t1 : decide (root < 0) = false := decide_eq_false (by omega)
  have t2 : decide ((l.length : Int) ≤ root) = false := decide_eq_false (by omega)
  go_enter Tryd.func26, Tryd.ntmps26
  go_wp2_with fail
  refine (H1.out _ HS0.out.bel).mono ?_
  rintro en w1 ⟨rfl, hb1⟩
  have HS1 := Lib.hid (HS0.out.step hb1)
  clear hb1 HS0 H1
  by_cases hr : 0 ≤ Pl.idxRef l.length l 0
  · have t3 : decide (0 ≤ Pl.idxRef l.length l 0) = true := decide_eq_true hr
    have HP : Hid (Pl.gCheck l root = (13, Pl.idxRef l.length l 0)) := by unfold Hid Pl.gCheck; rw [if_neg (fun h => h HPl.out), if_pos hr]
    go_wp2_with fail
    go_ret2
    exact ⟨ret_gc HP.out, HS1.out.bel⟩
  have t3 : decide (0 ≤ Pl.idxRef l.length l 0) = false := decide_eq_false hr
  have HR : Hid (Pl.Refs l) := (Pl.idxRef_refs l).1 (by omega)
  have HP : Hid (∀ o, Pl.firstAt (Pl.Cyc l) 0 l.length = o → Pl.gCheck l root = match o with | some i => (14, (i : Int)) | none => match Pl.firstAt (fun i => ¬ Pl.Reach l [root] i) 0 l.length with | some i => (15, (i : Int)) | none => (0, 0)) := by
    intro o ho
    unfold Pl.gCheck; rw [if_neg (fun h => h HPl.out), if_neg hr, ho]
    cases o <;> rfl
  clear hr
  have d0 := HS1.out.c0
  have d1 := HS1.out.c1
  go_upto_region 6 with (fail)
  go_cut [31] (fun s31 wx => ∃ b, s31 = .bool b ∧ Hid (b = false → Pl.Acyc l) ∧ Hid (ScS w w.heap.size (.slice A l.length c) root wx))
  case first =>
    go_region_with ((go_at_call 50; refine (gr_order _ root l _ (HV.out.below HS1.out.bel.drew) hl HK.out HR.out).mono ?_; rintro en w2 ⟨⟨u, out, rfl, ho, hord⟩, hb2⟩; obtain ⟨A2, c2, rfl⟩ := own_slice ho; have HS2 := Lib.hid (HS1.out.drew.step hb2); have e0 := HS2.out.c0; have HORD := Lib.hid hord; clear ho hb2 hord))
    all_goals
      go_wp2_with fail
      go_meet
      exact ⟨_, rfl, fun h => HORD.out.acyc (by simpa using h), HS2.out⟩
  case rest =>
    obtain ⟨b, rfl, hA, hS⟩ := hcut
    clear d0 d1 HS1
    have f0 := hS.out.c0
    have f1 := hS.out.c1
    go_upto_if 31 with (fail)
    go_cut [5, 6] (fun _ _ wx => Hid (Pl.Acyc l) ∧ Hid (ScS w w.heap.size (.slice A l.length c) root wx))
    case first =>
      cases b
      · have hA' := Lib.hid (hA.out rfl)
        clear hA
        go_wp2_with fail
        go_meet
        exact ⟨hA', hS⟩
      · clear hA
        go_wp2_with fail
        go_loopw [5, 6, 35] (fun _ _ i wr => ∃ k : Nat, k ≤ l.length ∧ i = .int .i64 k ∧ Hid (∀ j, j < k → ¬ Pl.Cyc l j) ∧ Hid (ScS w w.heap.size (.slice A l.length c) root wr)) (fun _ _ i _ => l.length - (intOf i).toNat)
        case atStart => exact ⟨0, by omega, rfl, fun j hj => by omega, hS⟩
        case round =>
          clear hS f0 f1
          obtain ⟨k, hkl, rfl, hN, hS⟩ := hrel
          by_cases hlt : k < l.length
          · obtain ⟨A', c', hve, hcc⟩ := HV.out.below hS.out.bel
            cases hve
            obtain ⟨ad, rfl, hca⟩ := hcc (by omega)
            obtain ⟨vi, vt, vk, h0, h1, h2, h3, hi, ht, hkk⟩ := hca k hlt
            have tl : decide ((k : Int) < l.length) = true := decide_eq_true (by omega)
            have hn := HK.out _ (List.getElem_mem hlt)
            have hka : Hid (Pl.kidsAt l k = l[k].kids) := Pl.kidsAt_get hlt
            have hpl : Hid (∀ y ∈ l[k].kids, Pl.isPlace l.length y) := HR.out _ (List.getElem_mem hlt)
            clear hca hcc
            generalize l[k] = x at *
            have hkk0 := hkk
            obtain ⟨VA, vc, rfl, _⟩ := hkk
            obtain ⟨TA, tc, rfl, _⟩ := ht
            obtain ⟨IA, ic, rfl, _⟩ := hi
            have hC0 : Hid (ChS w (.slice (some ad) l.length c) root wr.heap.size (.slice VA x.kids.length vc) (wr.alloc (.cells #[.int .i64 x.kind, .slice IA x.ints.length ic, .slice TA x.texts.length tc, .slice VA x.kids.length vc] 43))) :=
              ⟨hS.out.step ((Below.refl _ _).alloc (Nat.le_refl _) _), by rw [cell_row (heap_alloc_new _ _)]; rfl, (Array.getElem?_eq_some_iff.1 hS.out.row).1⟩
            have hKK : Hid (RNums (wr.alloc (.cells #[.int .i64 x.kind, .slice IA x.ints.length ic, .slice TA x.texts.length tc, .slice VA x.kids.length vc] 43)) (.slice VA x.kids.length vc) x.kids) := hkk0.below ((Below.refl _ _).alloc (Nat.le_refl _) _)
            clear hkk0
            go_upto_region 10 with (fail)
            go_cut [46] (fun s46 wx => ∃ b, s46 = .bool b ∧ Hid (b = true ↔ Pl.Cyc l k) ∧ Hid (ScS w w.heap.size (.slice (some ad) l.length c) root wx))
            case first =>
              clear h0 h1 h2 h3
              generalize wr.alloc (.cells #[.int .i64 x.kind, .slice IA x.ints.length ic, .slice TA x.texts.length tc, .slice VA x.kids.length vc] 43) = w4 at *
              have hC4 : ChS w (.slice (some ad) l.length c) root wr.heap.size (.slice VA x.kids.length vc) w4.drew := hC0.out.drew
              have d0 : w4.drew.cell? ⟨w.heap.size, 0, none⟩ = some (.slice (some ad) l.length c) := hC4.sc.c0
              have d1 : w4.drew.cell? ⟨w.heap.size, 1, none⟩ = some (.int .i64 root) := hC4.sc.c1
              have d3 : w4.drew.cell? ⟨wr.heap.size, 3, none⟩ = some (.slice VA x.kids.length vc) := hC4.kd
              have k64 : i64ok k := by unfold i64ok; omega
              clear hC0
              go_region_held3 (fun w' => (w'.cell? ⟨w.heap.size, 0, none⟩ = some (.slice (some ad) l.length c) ∧ w'.cell? ⟨w.heap.size, 1, none⟩ = some (.int .i64 root) ∧ w'.cell? ⟨wr.heap.size, 3, none⟩ = some (.slice VA x.kids.length vc)) ∧ ChS w (.slice (some ad) l.length c) root wr.heap.size (.slice VA x.kids.length vc) w')
                (first | exact ⟨⟨by assumption, by assumption, by assumption⟩, by assumption⟩ | go_keep)
                (first | (go_at_call 52; refine (clone_ints (.slice VA x.kids.length vc) x.kids w4.drew hKK.out (by omega)).mono ?_; rintro en w5 ⟨⟨u, rfl, ho⟩, hb5⟩; have hR5 := RwS.mk' hC4 hb5 ho; have hC5 := hR5.ch; have d05 := hC5.sc.c0; have d15 := hC5.sc.c1; have d35 := hC5.kd; clear ho hb5) | (go_at_call 51; refine (gr_reach w (.slice (some ad) l.length c) root l u x.kids _ HV.out hC5.sc.bel hl HK.out HR.out hR5.own hpl.out (by omega)).mono ?_; rintro en w6 ⟨⟨bm, met, rfl, hM, hiff⟩, hU⟩; have hC6 := hR5.upd hU; have d06 := hC6.sc.c0; have d16 := hC6.sc.c1; have d36 := hC6.kd; have hL := hM.look k64; have hI := Lib.hid hiff; clear hM hiff hU))
              all_goals
                go_wp2_with fail
                go_meet
                exact ⟨_, rfl, by unfold Hid; rw [decide_eq_true_iff, hI.out]; unfold Pl.Cyc; rw [hka.out], hC6.sc⟩
            case rest =>
              obtain ⟨b, rfl, hb, hS⟩ := hcut
              clear h0 h1 h2 h3
              cases b
              · have hN' : Hid (∀ j, j < k + 1 → ¬ Pl.Cyc l j) := by
                  intro j hj
                  by_cases e : j = k
                  · subst e; intro h; have := hb.out.2 h; cases this
                  · exact hN.out j (by omega)
                clear hb hN hC0 hKK
                go_wp2_with fail
                go_roundw
                case rel => exact ⟨k + 1, by omega, by go_num, hN', hS⟩
                case measure => simp [intOf]; omega
              · have hf : Pl.firstAt (Pl.Cyc l) 0 l.length = some k := by
                  have := Pl.firstAt_skip (p := Pl.Cyc l) (i := 0) (m := k) (k := l.length - k) (fun j _ hj => hN.out j (by omega))
                  rw [show k + (l.length - k) = l.length from by omega] at this
                  rw [this, show l.length - k = (l.length - k - 1) + 1 from by omega, Pl.firstAt_hit (by rw [Nat.zero_add]; exact hb.out.1 rfl)]
                  simp
                have HPv := Lib.hid (HP.out _ hf)
                clear hb hN hC0 hKK hf
                go_wp2_with fail
                go_ret2
                exact ⟨ret_gc HPv.out, hS.out.bel⟩
          · obtain rfl : k = l.length := by omega
            have hA' : Hid (Pl.Acyc l) := hN.out
            go_wp2_with fail
            go_meet
            exact ⟨hA', hS⟩
    case rest =>
      obtain ⟨hA, hS⟩ := hcut
      clear f0 f1
      have d0 := hS.out.c0
      have d1 := hS.out.c1
      have HP2 : Hid (∀ o, Pl.firstAt (fun i => ¬ Pl.Reach l [root] i) 0 l.length = o → Pl.gCheck l root = match o with | some i => (15, (i : Int)) | none => (0, 0)) := by
        intro o ho
        have h1 : Pl.firstAt (Pl.Cyc l) 0 l.length = none := Pl.firstAt_none.2 fun j _ hj => hA.out j (by omega)
        have h2 := HP.out _ h1
        simp only at h2
        rw [ho] at h2
        exact h2
      clear HP
      have hS1 : Hid (ScS w w.heap.size (.slice A l.length c) root (wc.alloc (.cells #[.int .i64 root] 3))) := hS.out.step ((Below.refl _ _).alloc (Nat.le_refl _) _)
      have hO1 : Hid ((wc.alloc (.cells #[.int .i64 root] 3)).ownsRow w.heap.size 3 1 (.slice (some ⟨wc.heap.size, 0, none⟩) 1 1) [root].length (i64s [root])) := World.ownsRow_lit wc #[.int .i64 root] 1 hS.out.bel.size (by unfold maxLen; omega) (by simp)
      have hlt : Hid (w.heap.size < wc.heap.size) := (Array.getElem?_eq_some_iff.1 hS.out.row).1
      go_wp2_with fail
      refine (gr_reach w (.slice A l.length c) root l _ [root] _ HV.out hS1.out.bel hl HK.out HR.out hO1.out (fun x hx => by simp at hx; subst hx; exact HPl.out) (by simp)).mono ?_
      rintro en w6 ⟨⟨bm, met, rfl, hM, hiff⟩, hU⟩
      have hB6 : Hid (Below w.heap.size w w6) := Upd.below hS1.out.bel hU hS1.out.bel.size (own_ge hO1.out)
      have hz := (Array.getElem?_eq_some_iff.1 hS1.out.row).1
      have e0 : w6.cell? ⟨w.heap.size, 0, none⟩ = some (.slice A l.length c) := by
        rw [cell_row ((hU.block _ hz (by simp [Value.ownBlock]; have := hlt.out; omega)).trans hS1.out.row)]; rfl
      have HM := Lib.hid hM
      have HI := Lib.hid hiff
      clear hM hiff hU hz hS hS1 hO1 d0 d1
      go_wp2_with fail
      go_loopw [8, 57] (fun _ i wr => ∃ k : Nat, k ≤ l.length ∧ i = .int .i64 k ∧ Hid (∀ j, j < k → Pl.Reach l [root] (j : Nat)) ∧ w6 = wr) (fun _ i _ => l.length - (intOf i).toNat)
      case atStart => exact ⟨0, by omega, rfl, fun j hj => by omega, rfl⟩
      case round =>
        clear e0
        obtain ⟨k, hkl, rfl, hN, rfl⟩ := hrel
        by_cases hlt2 : k < l.length
        · have tl : decide ((k : Int) < l.length) = true := decide_eq_true (by omega)
          have k64 : i64ok k := by unfold i64ok; omega
          have hL := HM.out.look k64
          by_cases hin : (k : Int) ∈ met
          · have hN' : Hid (∀ j, j < k + 1 → Pl.Reach l [root] (j : Nat)) := by
              intro j hj
              by_cases e : j = k
              · subst e; exact (HI.out _).1 hin
              · exact hN.out j (by omega)
            rw [decide_eq_true hin] at hL
            clear hin hN
            go_wp2_with fail
            go_roundw
            case rel => exact ⟨k + 1, by omega, by go_num, hN', by first | trivial | rfl⟩
            case measure => simp [intOf]; omega
          · have hf : Pl.firstAt (fun i => ¬ Pl.Reach l [root] (i : Nat)) 0 l.length = some k := by
              have := Pl.firstAt_skip (p := fun i => ¬ Pl.Reach l [root] (i : Nat)) (i := 0) (m := k) (k := l.length - k) (fun j _ hj hn => hn (hN.out j (by omega)))
              rw [show k + (l.length - k) = l.length from by omega] at this
              rw [this, show l.length - k = (l.length - k - 1) + 1 from by omega, Pl.firstAt_hit (by rw [Nat.zero_add]; exact fun h => hin ((HI.out _).2 h))]
              simp
            have HPv := Lib.hid (HP2.out _ hf)
            rw [decide_eq_false hin] at hL
            clear hin hN hf
            go_wp2_with fail
            go_ret2
            exact ⟨ret_gc HPv.out, hB6.out⟩
        · obtain rfl : k = l.length := by omega
          have hf : Pl.firstAt (fun i => ¬ Pl.Reach l [root] (i : Nat)) 0 l.length = none := Pl.firstAt_none.2 fun j _ hj hn => hn (hN.out j (by omega))
          have HPv := Lib.hid (HP2.out _ hf)
          clear hN hf
          go_wp2_with fail
          go_ret2
          exact ⟨ret_gc HPv.out, hB6.out⟩
end Go.Proofs.YtdejljgoebcmpaaDoor
/- graph.Depth. -/
namespace Go.Proofs.YtdejljgoebcmpaaDoor
open Go.RowKit

namespace Pl
/-- How deep, of those that are done. -/
structure DInv (l : List Node) (out : List Int) (i : Nat) (d : Nat → Nat) : Prop where
  eq : ∀ x : Nat, (x : Int) ∈ out.take i → d x = supKids d (kidsAt l x) + 1
  zero : ∀ x : Nat, (x : Int) ∉ out.take i → d x = 0
  le : ∀ x, d x ≤ i
theorem DInv.start (l : List Node) (out : List Int) : DInv l out 0 (fun _ => 0) := ⟨fun x h => by simp at h, fun _ _ => rfl, fun _ => Nat.le_refl _⟩
theorem supKids_le (d : Nat → Nat) (B : Nat) (kids : List Int) (h : ∀ x, d x ≤ B) : supKids d kids ≤ B := by
  unfold supKids
  have : ∀ m, m ≤ B → kids.foldl (fun m k => max m (d k.toNat)) m ≤ B := by
    induction kids with
    | nil => intro m hm; exact hm
    | cons k kids ih => intro m hm; simp only [List.foldl_cons]; exact ih _ (by have := h k.toNat; omega)
  exact this 0 (Nat.zero_le _)
theorem supKids_snoc (d : Nat → Nat) (kids : List Int) (k : Int) : supKids d (kids ++ [k]) = max (supKids d kids) (d k.toNat) := by
  unfold supKids; rw [List.foldl_append]; rfl
theorem DInv.step {l : List Node} {out : List Int} (hr : Refs l) (ho : IsOrder l out) {i : Nat} {d : Nat → Nat} (h : DInv l out i d) (hi : i < out.length) {a : Nat} (ha : out[i] = a) :
    DInv l out (i + 1) (upd d a (supKids d (kidsAt l a) + 1)) := by
  have hno : (a : Int) ∉ out.take i := by
    intro hm
    obtain ⟨j, hj, he⟩ := List.getElem_of_mem hm
    rw [List.length_take] at hj
    rw [List.getElem_take] at he
    exact List.pairwise_iff_getElem.1 (List.nodup_iff_pairwise_ne.1 ho.nodup) j i (by omega) hi (by omega) (he.trans ha.symm)
  have htk : out.take (i + 1) = out.take i ++ [(a : Int)] := by rw [List.take_succ_eq_append_getElem hi, ha]
  have hkid : ∀ x : Nat, (x : Int) ∈ out.take (i + 1) → ∀ k ∈ kidsAt l x, k.toNat ≠ a := by
    intro x hx k hk e
    have hp := hr.at_ hk
    unfold isPlace at hp
    obtain ⟨j, hj, he⟩ := List.getElem_of_mem hx
    rw [List.length_take] at hj
    rw [List.getElem_take] at he
    have h1 := ho.topo j (by omega) k (by rw [he]; simpa using hk)
    have h2 : k = a := by omega
    rw [h2] at h1
    have hsub : out.take j = (out.take i).take j := by rw [List.take_take, Nat.min_eq_left (by omega)]
    rw [hsub] at h1
    exact hno (List.mem_of_mem_take h1)
  have hsup : ∀ x : Nat, (x : Int) ∈ out.take (i + 1) → supKids (upd d a (supKids d (kidsAt l a) + 1)) (kidsAt l x) = supKids d (kidsAt l x) :=
    fun x hx => supKids_congr fun k hk => upd_other _ _ (hkid x hx k hk)
  refine ⟨fun x hx => ?_, fun x hx => ?_, fun x => ?_⟩
  · rw [hsup x hx]
    by_cases e : x = a
    · subst e; rw [upd_same]
    · rw [upd_other _ _ e]
      rw [htk] at hx
      rcases List.mem_append.1 hx with hx | hx
      · exact h.eq x hx
      · simp at hx; omega
  · rw [htk] at hx
    have h1 : (x : Int) ∉ out.take i := fun h => hx (List.mem_append_left _ h)
    have h2 : x ≠ a := fun e => hx (by subst e; simp)
    rw [upd_other _ _ h2]; exact h.zero x h1
  · by_cases e : x = a
    · subst e; rw [upd_same]; have := supKids_le d i (kidsAt l x) h.le; omega
    · rw [upd_other _ _ e]; have := h.le x; omega
theorem DInv.done {l : List Node} {out : List Int} (hall : ∀ x, x < l.length → (x : Int) ∈ out) {d : Nat → Nat} (h : DInv l out out.length d) : IsDepth l d := by
  intro x hx
  exact h.eq x (by rw [List.take_length]; exact hall x hx)
end Pl

theorem upd_upd {α : Type} (f : Nat → α) (k : Nat) (a b : α) : Pl.upd (Pl.upd f k a) k b = Pl.upd f k b := by
  funext j
  by_cases e : j = k
  · subst e; rw [Pl.upd_same, Pl.upd_same]
  · rw [Pl.upd_other _ _ e, Pl.upd_other _ _ e, Pl.upd_other _ _ e]
theorem ScS.set {w w1 : World} {g : Nat} {v : Value} {root : Int} (h : ScS w g v root w1) {b : Nat} (hb : w.heap.size ≤ b) (hne : b ≠ g) (j : Nat) (u : Value) : ScS w g v root (w1.setCell ⟨b, j, none⟩ u) :=
  ⟨(heap_setCell_other w1 _ g u (fun e => hne e.symm)).trans h.row, h.bel.setCell (p := ⟨b, j, none⟩) hb u⟩
def natF (d : Nat → Nat) : Nat → Value := intF fun j => (d j : Int)
theorem natF_upd (d : Nat → Nat) (k m : Nat) : Pl.upd (natF d) k (.int .i64 m) = natF (Pl.upd d k m) := by
  unfold natF
  rw [intF_upd]
  congr 1
  funext j
  by_cases e : j = k
  · subst e; rw [Pl.upd_same, Pl.upd_same]
  · rw [Pl.upd_other _ _ e, Pl.upd_other _ _ e]
structure DSt (w : World) (n db : Nat) (d : Nat → Nat) (B : Nat) (u : Value) (out : List Int) (w' : World) : Prop where
  row : w'.heap[db]? = some (.cells (rowOf n (natF d)) 3 (0, 0))
  own : w'.ownsRow B 3 1 u out.length (i64s out)
  ne : u.ownBlock ≠ some db
namespace DSt
variable {w w' : World} {n db B : Nat} {d : Nat → Nat} {u : Value} {out : List Int}
theorem cell (h : DSt w n db d B u out w') (j : Nat) (hj : j < n) : w'.cell? ⟨db, j, none⟩ = some (.int .i64 (d j)) := by rw [cell_row h.row, rowOf_get n _ j hj]; rfl
theorem froz (h : DSt w n db d B u out w') (j : Nat) : w'.frozen? ⟨db, j, none⟩ = false := frozen4 h.row j
theorem drew (h : DSt w n db d B u out w') : DSt w n db d B u out w'.drew := ⟨h.row, h.own, h.ne⟩
theorem set (h : DSt w n db d B u out w') (k m : Nat) : DSt w n db (Pl.upd d k m) B u out (w'.setCell ⟨db, k, none⟩ (.int .i64 m)) := by
  have hu := Upd.one w' db k (.int .i64 m)
  refine ⟨?_, hu.own h.own (fun i hi he => h.ne (he ▸ hi)), h.ne⟩
  rw [heap_setCell_same w' db k _ _ _ h.row, rowOf_set, natF_upd]
end DSt

set_option maxHeartbeats 4000000 in
set_option maxRecDepth 100000 in
theorem gr_depth (v : Value) (root : Int) (l : List Pl.Node) (w : World) (hv : RNodes w v l) (hl : l.length ≤ 1048576) (hk : ∀ x ∈ l, x.kids.length ≤ 1048576) :
    Calls Tryd.prog 55 #[.agg #[v, .int .i64 root]] w fun en w' => en = .returned (.int .i64 (Pl.depthOf l root)) ∧ Below w.heap.size w w' := by
  have HV := Lib.hid hv
  have HK := Lib.hid hk
  have HS0 := Lib.hid (ScS.box w v root)
  have H1 : Hid (∀ w1, Below w.heap.size w w1 → Calls Tryd.prog 26 #[.agg #[v, .int .i64 root]] w1 fun en w' => en = .returned (.tuple #[.int .i64 (Pl.gCheck l root).1, .int .i64 (Pl.gCheck l root).2]) ∧ Below w1.heap.size w1 w') := fun w1 hb => gr_check v root l w1 (hv.below hb) hl hk
  have hm1 := make_ints l.length hl
  obtain ⟨A, c, rfl⟩ : ∃ A c, v = .slice A l.length c := by obtain ⟨A, c, rfl, _⟩ := hv; exact ⟨A, c, rfl⟩
  clear hv hk
  obtain ⟨g, hg⟩ : ∃ g, g = Pl.gCheck l root := ⟨_, rfl⟩
  rw [← hg] at H1
  obtain ⟨ge, ga⟩ := g
  have HG := Lib.hid hg
  clear hg
  simp only at H1
  go_enter Tryd.func55, Tryd.ntmps55
  go_wp2_with fail
  refine (H1.out _ HS0.out.bel).mono ?_
  rintro en w1 ⟨rfl, hb1⟩
  have HS1 := Lib.hid (HS0.out.step hb1)
  clear hb1 HS0 H1
  by_cases he : ge = 0
  rotate_left
  · have HD : Hid (Pl.depthOf l root = 0) := Pl.depthOf_wrong (by rw [← HG.out]; exact he)
    have t1 : (ge != 0) = true := by simpa using he
    go_wp2_with fail
    go_ret
    exact ⟨ret_int (by rw [HD.out]; rfl), HS1.out.bel⟩
  subst he
  have HRt : Hid (Pl.Right l root) := Pl.gCheck_ok.1 (by rw [← HG.out])
  have HR : Hid (Pl.Refs l) := HRt.out.refs
  have hp := HRt.out.root
  unfold Pl.isPlace at hp
  have d0 := HS1.out.c0
  have hS2 : Hid (ScS w w.heap.size (.slice A l.length c) root (w1.alloc (.cells (rowOf l.length fun _ => .int .i64 0) 3))) := HS1.out.step ((Below.refl _ _).alloc (Nat.le_refl _) _)
  have hR2 : Hid ((w1.alloc (.cells (rowOf l.length fun _ => .int .i64 0) 3)).heap[w1.heap.size]? = some (.cells (rowOf l.length (natF fun _ => 0)) 3 (0, 0))) := heap_alloc_new _ _
  have hlt1 : Hid (w.heap.size < w1.heap.size) := (Array.getElem?_eq_some_iff.1 HS1.out.row).1
  go_upto_region 5 with (fail)
  generalize w1.alloc (.cells (rowOf l.length fun _ => .int .i64 0) 3) = w2 at *
  clear d0
  have d0 := hS2.out.c0
  have d1 := hS2.out.c1
  go_wp2_with fail
  refine (gr_order (.slice A l.length c) root l _ (HV.out.below hS2.out.bel) hl HK.out HR.out).mono ?_
  rintro en w3 ⟨⟨u, out, rfl, ho, hord⟩, hb3⟩
  have HS3 := Lib.hid (hS2.out.step hb3)
  have hD : Hid (DSt w l.length w1.heap.size (fun _ => 0) w2.heap.size u out w3) := ⟨(hb3.block _ (Array.getElem?_eq_some_iff.1 hR2.out).1).trans hR2.out, ho, fun e => by have := own_ge ho _ e; have := (Array.getElem?_eq_some_iff.1 hR2.out).1; omega⟩
  have HO := Lib.hid hord
  have HOL : Hid (out.length = l.length) := hord.len HR.out HRt.out.acyc
  obtain ⟨A2, c2, rfl⟩ := own_slice ho
  clear ho hb3 hord hS2 hR2 d0 d1 HS1
  have hol : out.length ≤ 1048576 := by rw [HOL.out]; exact hl
  go_wp2_with fail
  go_loopw [7, 24] (fun _ i wr => ∃ (k : Nat) (d : Nat → Nat), k ≤ out.length ∧ i = .int .i64 k ∧ Hid (Pl.DInv l out k d) ∧ Hid (DSt w l.length w1.heap.size d w2.heap.size (.slice A2 out.length c2) out wr) ∧ Hid (ScS w w.heap.size (.slice A l.length c) root wr)) (fun _ i _ => out.length - (intOf i).toNat)
  case atStart => exact ⟨0, _, by omega, rfl, Pl.DInv.start l out, hD, HS3⟩
  case round =>
    clear hD HS3
    obtain ⟨k, d, hkl, rfl, hI, hD, hS⟩ := hrel
    by_cases hlt : k < out.length
    · have hown := hD.out.own
      obtain ⟨G, cap, hve⟩ : ∃ G cap, Value.slice A2 out.length c2 = .slice (some ⟨G, 0, none⟩) out.length cap := by
        rcases hown.2 with ⟨_, h0⟩ | ⟨g, cap, cur, h0, _⟩
        · omega
        · exact ⟨_, _, h0⟩
      rw [hve] at hown
      have e1 := hown.cellAt k (by omega)
      rw [i64s_get _ k hlt] at e1
      injection hve with hve1 _ hve2
      subst hve1 hve2
      have hp := HO.out.place _ (List.getElem_mem hlt)
      have tl : decide ((k : Int) < out.length) = true := decide_eq_true (by omega)
      have tl2 : decide (k < out.length) = true := decide_eq_true (by omega)
      have HLT : Hid (k < out.length) := hlt
      generalize hav : out[k] = av at e1 hp
      unfold Pl.isPlace at hp
      obtain ⟨a, rfl⟩ : ∃ a : Nat, av = a := ⟨av.toNat, by omega⟩
      have hI' : Hid (Pl.DInv l out (k + 1) (Pl.upd d a (Pl.supKids d (Pl.kidsAt l a) + 1))) := hI.out.step HR.out HO.out hlt hav
      have hnoA : Hid ((a : Int) ∉ out.take k) := (fun hm => by
        obtain ⟨j, hj, he⟩ := List.getElem_of_mem hm
        rw [List.length_take] at hj
        rw [List.getElem_take] at he
        exact List.pairwise_iff_getElem.1 (List.nodup_iff_pairwise_ne.1 HO.out.nodup) j k (by omega) hlt (by omega) (he.trans hav.symm))
      have hz : Hid (d a = 0) := hI.out.zero a hnoA.out
      have hkt : Hid (∀ y ∈ Pl.kidsAt l a, y ∈ out.take k) := by
        have e : Int.toNat out[k] = a := by have h2 := hav; omega
        exact fun y hy => HO.out.topo k hlt y ((congrArg (fun z => y ∈ Pl.kidsAt l z) e).mpr hy)
      have hal : a < l.length := by omega
      have ta : decide ((a : Int) < l.length) = true := decide_eq_true (by omega)
      obtain ⟨A', c', hve, hcc⟩ := HV.out
      cases hve
      obtain ⟨ad, rfl, hca⟩ := hcc (by omega)
      obtain ⟨vi, vt, vk, h0, h1, h2, h3, hi, ht, hkk⟩ := hca a hal
      replace h3 := (hS.out.bel.cell (World.block_lt_of_cell? w _ h3)).trans h3
      clear h0 h1 h2 hi ht
      have hn := HK.out _ (List.getElem_mem hal)
      have hka : Hid (Pl.kidsAt l a = l[a].kids) := Pl.kidsAt_get hal
      have hpl : Hid (∀ y ∈ l[a].kids, Pl.isPlace l.length y) := HR.out _ (List.getElem_mem hal)
      have hle : Hid (∀ x, d x ≤ k) := hI.out.le
      have d0 := hS.out.c0
      clear hca hcc hav hown hI hlt
      generalize l[a] = x at *
      have HKK := Lib.hid hkk
      obtain ⟨VA, vc, rfl, _⟩ := hkk
      go_wp2_with fail
      go_loopw [9, 35] (fun _ j wi => ∃ (jn : Nat), jn ≤ x.kids.length ∧ j = .int .i64 jn ∧ Hid (DSt w l.length w1.heap.size (Pl.upd d a (Pl.supKids d (x.kids.take jn))) w2.heap.size (.slice (some ⟨G, 0, none⟩) out.length c2) out wi) ∧ Hid (ScS w w.heap.size (.slice (some ad) l.length c) root wi)) (fun _ j _ => x.kids.length - (intOf j).toNat)
      case atStart => 
        have : Pl.upd d a (Pl.supKids d (x.kids.take 0)) = d := by
          funext j; by_cases e : j = a
          · subst e; rw [Pl.upd_same, hz.out]; rfl
          · rw [Pl.upd_other _ _ e]
        exact ⟨0, by omega, rfl, by rw [this]; exact hD, hS⟩
      case round =>
        clear hD hS h3 d0 e1 tl tl2
        obtain ⟨jn, hjn, rfl, hD, hS⟩ := hrel
        by_cases hj : jn < x.kids.length
        · have tj : decide ((jn : Int) < x.kids.length) = true := decide_eq_true (by omega)
          have HJ : Hid (jn < x.kids.length) := hj
          obtain ⟨VA', vc', hve, hkc⟩ := HKK.out.below hS.out.bel
          cases hve
          obtain ⟨kd, rfl, hkc2⟩ := hkc (by omega)
          have e1 := hkc2 jn hj
          have hp := hpl.out _ (List.getElem_mem hj)
          have hin : x.kids[jn] ∈ out.take k := hkt.out _ (by rw [hka.out]; exact List.getElem_mem hj)
          have htk : x.kids.take (jn + 1) = x.kids.take jn ++ [x.kids[jn]] := List.take_succ_eq_append_getElem hj
          clear hkc hkc2
          generalize x.kids[jn] = kv at *
          unfold Pl.isPlace at hp
          obtain ⟨kn, rfl⟩ : ∃ kn : Nat, kv = kn := ⟨kv.toNat, by omega⟩
          have hkn : kn < l.length := by omega
          have tk1 : decide ((kn : Int) < l.length) = true := decide_eq_true (by omega)
          have hne : Hid (kn ≠ a) := fun e => hnoA.out (by rw [← e]; exact hin)
          have hsup := Pl.supKids_snoc d (x.kids.take jn) kn
          rw [← htk, Int.toNat_natCast] at hsup
          have hb1 := Pl.supKids_le d k (x.kids.take jn) hle.out
          have hb2 := hle.out kn
          have ea := hD.out.cell a hal
          have ek := hD.out.cell kn hkn
          have fa := hD.out.froz a
          rw [Pl.upd_same] at ea
          rw [Pl.upd_other _ _ hne.out] at ek
          obtain ⟨s2, hs2⟩ : ∃ s2, s2 = Pl.supKids d (x.kids.take (jn + 1)) := ⟨_, rfl⟩
          rw [← hs2] at hsup
          have hD2 := hD.out.set a s2
          rw [upd_upd] at hD2
          have HD2 := Lib.hid hD2
          have hS2 : Hid (ScS w w.heap.size (.slice (some ad) l.length c) root (wr.setCell ⟨w1.heap.size, a, none⟩ (.int .i64 s2))) := hS.out.set (Nat.le_of_lt hlt1.out) (fun e => by have := hlt1.out; omega) a _
          have HSE := Lib.hid hs2
          have hmx : Hid (max ((Pl.supKids d (x.kids.take jn) : Nat) : Int) (d kn : Int) = (s2 : Int)) := by unfold Hid; omega
          have hjb : jn ≤ 1048576 := by omega
          clear hsup htk hj hjn hD2 hs2 hin
          generalize Pl.supKids d (x.kids.take jn) = s1 at *
          generalize d kn = s3 at *
          go_wp2_with fail
          go_still_tail 12, (by kernel_rfl)
          change wpList _ _ _ _ _ wr.drew
          go_wp2_with fail
          go_roundw
          case rel => exact ⟨jn + 1, HJ.out, by go_num, by rw [hmx.out, ← HSE.out]; exact HD2.out.drew, by rw [hmx.out]; exact hS2.out.drew⟩
          case measure => have := HJ.out; simp [intOf]; omega
        · obtain rfl : jn = x.kids.length := by omega
          have hD1 := hD.out
          rw [List.take_length] at hD1
          have ea := hD1.cell a hal
          have fa := hD1.froz a
          rw [Pl.upd_same] at ea
          have hb1 := Pl.supKids_le d k x.kids hle.out
          have hD2 := hD1.set a (Pl.supKids d x.kids + 1)
          rw [upd_upd] at hD2
          have HD2 := Lib.hid hD2
          have hS2 : Hid (ScS w w.heap.size (.slice (some ad) l.length c) root (wr.setCell ⟨w1.heap.size, a, none⟩ (.int .i64 (Pl.supKids d x.kids + 1 : Nat)))) := hS.out.set (Nat.le_of_lt hlt1.out) (fun e => by have := hlt1.out; omega) a _
          have HI2 := hI'.out
          rw [hka.out] at HI2
          have HI3 := Lib.hid HI2
          clear hD hD1 hD2 HI2 hS hI'
          generalize Pl.supKids d x.kids = s1 at *
          go_wp2_with fail
          go_roundw
          case rel => exact ⟨k + 1, _, HLT.out, by go_num, HI3, by first | exact HD2 | simpa using HD2, by first | exact hS2 | simpa using hS2⟩
          case measure => have := HLT.out; simp [intOf]; omega
    · obtain rfl : k = out.length := by omega
      have d1 := hS.out.c1
      obtain ⟨rn, hrn⟩ : ∃ rn : Nat, root = rn := ⟨root.toNat, by omega⟩
      have hrl : rn < l.length := by omega
      have tr : decide ((rn : Int) < l.length) = true := decide_eq_true (by omega)
      have HV2 : Hid (Pl.depthOf l root = d rn) := by
        have := Pl.depthOf_right HRt.out (hI.out.done (fun x hx => HO.out.all HR.out HRt.out.acyc x hx))
        rw [this, hrn]; rfl
      subst hrn
      have e1 := hD.out.cell rn hrl
      clear hI hD
      go_wp2_with fail
      go_ret
      exact ⟨ret_int (by rw [HV2.out]), hS.out.bel⟩
end Go.Proofs.YtdejljgoebcmpaaDoor
/- What the arguments are that are read; how great. -/
namespace Go.Proofs.YtdejljgoebcmpaaDoor
open Go.ChangeShapes Go.WideShapes Go.ChangeAt Go.RowKit Go.Lib
open Go.ChangeMaps (open_string shut_string)

set_option maxRecDepth 100000
theorem one_le {H : Type} (d : DataW H) : 1 ≤ Rows.uptoBulk d := by
  cases d with
  | lit l => cases l <;> simp [Rows.uptoBulk]
  | nil => simp [Rows.uptoBulk]
  | ptr d => simp [Rows.uptoBulk]
  | slice elems spare => simp [Rows.uptoBulk]
  | agg parts => simp [Rows.uptoBulk]
  | iface t d => simp [Rows.uptoBulk]
  | map entries => simp [Rows.uptoBulk]
  | held h => simp [Rows.uptoBulk]
theorem bulk_part {H : Type} {d : DataW H} {l : List (DataW H)} (h : d ∈ l) : Rows.uptoBulk d ≤ Rows.uptoBulkAll l := by
  induction l with
  | nil => cases h
  | cons x r ih =>
    simp only [Rows.uptoBulkAll]
    cases List.mem_cons.1 h with
    | inl e => subst e; omega
    | inr e => have := ih e; omega
theorem bulk_len {H : Type} (l : List (DataW H)) : l.length ≤ Rows.uptoBulkAll l := by
  induction l with
  | nil => simp [Rows.uptoBulkAll]
  | cons x r ih => have := one_le x; simp only [Rows.uptoBulkAll, List.length_cons]; omega

section
variable {H : Type} {enc : TypeId × Value → H} {w : World} {sp : Nat → Bool}
theorem cells_at {a : Addr} {n : Nat} {cs : List Value} (h : w.cells? 0 a n = some cs) : cs.length = n ∧ ∀ i, i < n → w.cell? (a.add i) = cs[i]? := by
  unfold World.cells? at h
  rw [if_pos (Nat.zero_le _)] at h
  exact ⟨by simpa using mapM_some_length h, fun i hi => mapM_some_get h i i (by simp [hi])⟩
/-- A row of cells that are read: the elements. -/
theorem open_row1 {P : Program} {t e : TypeId} (ht : P.underlying t = some (.slice e)) (hc : P.cellsOf e = 1) {fuel : Nat} {cs : List Value} {x : DataW H × List MemPlace} (h : DataW.trod enc P w 0 sp true fuel t cs = some x) :
    ∃ A len cap, cs = [.slice A len cap] ∧ (0 < len → ∃ a, A = some a ∧ ∀ i, i < len → ∃ u y n, w.cell? (a.add i) = some u ∧ DataW.trod enc P w 0 sp true n e [u] = some y ∧ Rows.uptoBulk y.1 ≤ Rows.uptoBulk x.1) ∧ len ≤ Rows.uptoBulk x.1 := by
  rcases DataW.trod_slice ht h with ⟨rfl, _⟩ | ⟨a, len, cap, elems, rest, n, rfl, rfl, rfl, _, _, _, hl, hel, _, _⟩
  · exact ⟨none, 0, 0, rfl, fun h => by omega, by omega⟩
  · have hb : Rows.uptoBulkAll (elems.map (·.1)) ≤ Rows.uptoBulk (.slice (elems.map (·.1)) (rest.map (·.1))) := by simp only [Rows.uptoBulk]; omega
    refine ⟨some a, len, cap, rfl, fun _ => ⟨a, rfl, fun i hi => ?_⟩, ?_⟩
    · have h1 := hel i hi
      rw [hc, Nat.mul_one, List.getElem?_eq_getElem (by omega)] at h1
      obtain ⟨us, h2, h3⟩ := Option.bind_eq_some_iff.1 h1
      obtain ⟨h4, h5⟩ := cells_at h2
      match us, h4, h3 with
      | [u], _, h3 =>
        have h6 := h5 0 (by omega)
        have e0 : (a.add i).add 0 = a.add i := by unfold Addr.add; simp
        rw [e0] at h6
        refine ⟨u, elems[i], n, h6, h3, Nat.le_trans (bulk_part (List.mem_map.2 ⟨elems[i], List.getElem_mem _, rfl⟩)) hb⟩
    · have := bulk_len (elems.map (·.1))
      simp only [List.length_map] at this
      simp only at hb ⊢
      omega
theorem choose_list {α : Type} {p : Nat → α → Prop} : ∀ n : Nat, (∀ i, i < n → ∃ x, p i x) → ∃ l : List α, l.length = n ∧ ∀ i (h : i < l.length), p i l[i]
  | 0, _ => ⟨[], rfl, fun i h => by simp at h⟩
  | n + 1, h => by
    obtain ⟨l, hl, hp⟩ := choose_list n (fun i hi => h i (by omega))
    obtain ⟨x, hx⟩ := h n (by omega)
    refine ⟨l ++ [x], by simp [hl], fun i hi => ?_⟩
    by_cases e : i < l.length
    · rw [List.getElem_append_left e]; exact hp i e
    · have : i = n := by simp at hi; omega
      subst this
      rw [List.getElem_append_right (by omega)]
      simpa [hl] using hx
theorem open_nums {P : Program} {t e : TypeId} (ht : P.underlying t = some (.slice e)) (he : P.underlying e = some (.int .i64)) (hc : P.cellsOf e = 1) {fuel : Nat} {cs : List Value} {x : DataW H × List MemPlace} (h : DataW.trod enc P w 0 sp true fuel t cs = some x) :
    ∃ v l, cs = [v] ∧ RNums w v l ∧ l.length ≤ Rows.uptoBulk x.1 := by
  obtain ⟨A, len, cap, rfl, hr, hb⟩ := open_row1 ht hc h
  rcases Nat.eq_zero_or_pos len with h0 | h0
  · subst h0; exact ⟨_, [], rfl, ⟨A, cap, rfl, fun h => by simp at h⟩, by simp⟩
  · obtain ⟨a, rfl, hr2⟩ := hr h0
    obtain ⟨l, hl, hp⟩ := choose_list (p := fun i (z : Int) => w.cell? (a.add i) = some (.int .i64 z)) len (fun i hi => by
      obtain ⟨u, y, n, h1, h2, _⟩ := hr2 i hi
      obtain ⟨z, h3, _, _⟩ := DataW.trod_int he h2
      cases h3
      exact ⟨z, h1⟩)
    subst hl
    exact ⟨_, l, rfl, ⟨some a, cap, rfl, fun _ => ⟨a, rfl, hp⟩⟩, hb⟩
theorem open_texts {P : Program} {t e : TypeId} (ht : P.underlying t = some (.slice e)) (he : P.underlying e = some .string) (hc : P.cellsOf e = 1) {fuel : Nat} {cs : List Value} {x : DataW H × List MemPlace} (h : DataW.trod enc P w 0 sp true fuel t cs = some x) :
    ∃ v l, cs = [v] ∧ RStrs w v l ∧ l.length ≤ Rows.uptoBulk x.1 ∧ ∀ s ∈ l, s.size ≤ Rows.uptoBulk x.1 := by
  obtain ⟨A, len, cap, rfl, hr, hb⟩ := open_row1 ht hc h
  rcases Nat.eq_zero_or_pos len with h0 | h0
  · subst h0; exact ⟨_, [], rfl, ⟨A, cap, rfl, fun h => by simp at h⟩, by simp, by simp⟩
  · obtain ⟨a, rfl, hr2⟩ := hr h0
    obtain ⟨l, hl, hp⟩ := choose_list (p := fun i (z : ByteArray) => w.cell? (a.add i) = some (.string z) ∧ z.size ≤ Rows.uptoBulk x.1) len (fun i hi => by
      obtain ⟨u, y, n, h1, h2, h4⟩ := hr2 i hi
      obtain ⟨z, h3, h5, _⟩ := DataW.trod_string he h2
      cases h3
      refine ⟨z, h1, ?_⟩
      rw [h5] at h4
      simp only [Rows.uptoBulk] at h4
      have : z.data.toList.length = z.size := by simp
      omega)
    subst hl
    refine ⟨_, l, rfl, ⟨some a, cap, rfl, fun _ => ⟨a, rfl, fun j hj => (hp j hj).1⟩⟩, hb, fun s hs => ?_⟩
    obtain ⟨j, hj, rfl⟩ := List.getElem_of_mem hs
    exact (hp j hj).2
end
theorem cellsNode : Tryd.prog.cellsOf 43 = 4 := by kernel_rfl
theorem cellsOne : Tryd.prog.cellsOf 40 = 1 ∧ Tryd.prog.cellsOf 39 = 1 ∧ Tryd.prog.cellsOf 41 = 1 ∧ Tryd.prog.cellsOf 3 = 1 ∧ Tryd.prog.cellsOf 2 = 1 ∧ Tryd.prog.cellsOf 9 = 1 ∧ Tryd.prog.cellsOf 22 = 1 := by
  refine ⟨?_, ?_, ?_, ?_, ?_, ?_, ?_⟩ <;> kernel_rfl
section
variable {H : Type} {enc : TypeId × Value → H} {w : World} {sp : Nat → Bool}
/-- A node's cells that are read. -/
theorem open_node {fuel : Nat} {cs : List Value} {x : DataW H × List MemPlace} (h : DataW.trod enc Tryd.prog w 0 sp true fuel 43 cs = some x) :
    ∃ (n : Pl.Node) (vi vt vk : Value), cs = [.int .i64 n.kind, vi, vt, vk] ∧ RNums w vi n.ints ∧ RStrs w vt n.texts ∧ RNums w vk n.kids ∧ n.ints.length ≤ Rows.uptoBulk x.1 ∧ n.texts.length ≤ Rows.uptoBulk x.1 ∧ n.kids.length ≤ Rows.uptoBulk x.1 ∧ ∀ t ∈ n.texts, t.size ≤ Rows.uptoBulk x.1 := by
  obtain ⟨xs, n, _, rfl, hl, hlen, hf⟩ := DataW.trod_struct Tryd.underlying43 h
  rw [cellsNode] at hl
  obtain ⟨k1, k2, k3, k4, k5, k6, k7⟩ := cellsOne
  match cs, hl with
  | [c0, c1, c2, c3], _ =>
    match xs, hlen with
    | [x0, x1, x2, x3], _ =>
      have f0 : DataW.trod enc Tryd.prog w 0 sp true n 3 [c0] = some x0 := by have := hf 0 _ rfl; simpa [k4] using this
      have f1 : DataW.trod enc Tryd.prog w 0 sp true n 40 [c1] = some x1 := by have := hf 1 _ rfl; simpa [k1] using this
      have f2 : DataW.trod enc Tryd.prog w 0 sp true n 39 [c2] = some x2 := by have := hf 2 _ rfl; simpa [k2] using this
      have f3 : DataW.trod enc Tryd.prog w 0 sp true n 41 [c3] = some x3 := by have := hf 3 _ rfl; simpa [k3] using this
      obtain ⟨kd, e0, _, _⟩ := DataW.trod_int Tryd.underlying3 f0
      obtain ⟨vi, li, e1, r1, b1⟩ := open_nums Tryd.underlying40 Tryd.underlying2 k5 f1
      obtain ⟨vt, lt, e2, r2, b2, b2'⟩ := open_texts Tryd.underlying39 Tryd.underlying9 k6 f2
      obtain ⟨vk, lk, e3, r3, b3⟩ := open_nums Tryd.underlying41 Tryd.underlying3 k4 f3
      have h0 : c0 = .int .i64 kd := by simpa using e0
      have h1 : c1 = vi := by simpa using e1
      have h2 : c2 = vt := by simpa using e2
      have h3 : c3 = vk := by simpa using e3
      subst h0; subst h1; subst h2; subst h3
      have hx : ∀ y ∈ [x0, x1, x2, x3], Rows.uptoBulk y.1 ≤ Rows.uptoBulk (DataW.agg ([x0, x1, x2, x3].map (·.1))) := fun y hy => by
        have := bulk_part (List.mem_map.2 ⟨y, hy, rfl⟩ : y.1 ∈ [x0, x1, x2, x3].map (·.1))
        simp only [Rows.uptoBulk]; omega
      have q1 := hx x1 (by simp)
      have q2 := hx x2 (by simp)
      have q3 := hx x3 (by simp)
      exact ⟨⟨kd, li, lt, lk⟩, c1, c2, c3, rfl, r1, r2, r3, Nat.le_trans b1 q1, Nat.le_trans b2 q2, Nat.le_trans b3 q3, fun t ht => Nat.le_trans (b2' t ht) q2⟩
theorem open_nodes {fuel : Nat} {cs : List Value} {x : DataW H × List MemPlace} (h : DataW.trod enc Tryd.prog w 0 sp true fuel 22 cs = some x) :
    ∃ v l, cs = [v] ∧ RNodes w v l ∧ (Rows.uptoBulk x.1 ≤ 1048576 → Pl.Sm l) := by
  rcases DataW.trod_slice Tryd.underlying22 h with ⟨rfl, _⟩ | ⟨a, len, cap, elems, rest, n, rfl, rfl, rfl, _, _, _, hl, hel, _, _⟩
  · exact ⟨_, [], rfl, ⟨none, 0, rfl, fun h => by simp at h⟩, fun _ => ⟨by simp, by simp, by simp, by simp, by simp⟩⟩
  · have hb : Rows.uptoBulkAll (elems.map (·.1)) ≤ Rows.uptoBulk (.slice (elems.map (·.1)) (rest.map (·.1))) := by simp only [Rows.uptoBulk]; omega
    have hlb := bulk_len (elems.map (·.1))
    simp only [List.length_map] at hlb
    rw [cellsNode] at hel
    obtain ⟨l, hll, hp⟩ := choose_list (p := fun i (nd : Pl.Node) => RNode w (a.add (i * 4)) nd ∧ nd.ints.length ≤ Rows.uptoBulk (.slice (elems.map (·.1)) (rest.map (·.1))) ∧ nd.texts.length ≤ Rows.uptoBulk (.slice (elems.map (·.1)) (rest.map (·.1))) ∧
        nd.kids.length ≤ Rows.uptoBulk (.slice (elems.map (·.1)) (rest.map (·.1))) ∧ ∀ t ∈ nd.texts, t.size ≤ Rows.uptoBulk (.slice (elems.map (·.1)) (rest.map (·.1)))) len (fun i hi => by
      have h1 := hel i hi
      rw [List.getElem?_eq_getElem (by omega)] at h1
      obtain ⟨us, h2, h3⟩ := Option.bind_eq_some_iff.1 h1
      obtain ⟨h4, h5⟩ := cells_at h2
      obtain ⟨nd, vi, vt, vk, rfl, r1, r2, r3, b1, b2, b3, b4⟩ := open_node h3
      have hbi : Rows.uptoBulk elems[i].1 ≤ Rows.uptoBulk (.slice (elems.map (·.1)) (rest.map (·.1))) := Nat.le_trans (bulk_part (List.mem_map.2 ⟨elems[i], List.getElem_mem _, rfl⟩)) hb
      have c0 := h5 0 (by omega)
      have c1 := h5 1 (by omega)
      have c2 := h5 2 (by omega)
      have c3 := h5 3 (by omega)
      have e0 : (a.add (i * 4)).add 0 = a.add (i * 4) := by unfold Addr.add; simp
      rw [e0] at c0
      exact ⟨nd, ⟨vi, vt, vk, c0, c1, c2, c3, r1, r2, r3⟩, Nat.le_trans b1 hbi, Nat.le_trans b2 hbi, Nat.le_trans b3 hbi, fun t ht => Nat.le_trans (b4 t ht) hbi⟩)
    subst hll
    refine ⟨_, l, rfl, ⟨some a, cap, rfl, fun _ => ⟨a, rfl, fun j hj => (hp j hj).1⟩⟩, fun hB => ?_⟩
    have hm : ∀ nd ∈ l, ∃ j, ∃ h : j < l.length, nd = l[j] := fun nd hn => by obtain ⟨j, hj, rfl⟩ := List.getElem_of_mem hn; exact ⟨j, hj, rfl⟩
    simp only at hB
    refine ⟨by omega, fun nd hn => ?_, fun nd hn => ?_, fun nd hn => ?_, fun nd hn t ht => ?_⟩
    all_goals (obtain ⟨j, hj, rfl⟩ := hm nd hn; have q := (hp j hj).2)
    · omega
    · omega
    · omega
    · exact Nat.le_trans (q.2.2.2 t ht) hB
theorem cellsScene : Tryd.prog.cellsOf 24 = 2 ∧ Tryd.prog.cellsOf 26 = 5 := by constructor <;> kernel_rfl
theorem array2' {α : Type} {cs : Array α} (h : cs.size = 2) : ∃ c0 c1, cs = #[c0, c1] := by
  obtain ⟨l⟩ := cs
  match l, h with
  | [c0, c1], _ => exact ⟨c0, c1, rfl⟩
/-- A scene that is an argument. -/
theorem open_scene {r : Reach} {b0 : Nat} {v : Value} {d : DataW H} {ps : List MemPlace} (hv : Value.okWide Tryd.prog w r b0 24 v) (h : DataW.Trod enc Tryd.prog w 0 sp true 24 v d ps) :
    ∃ (u : Value) (s : Pl.Scene), v = .agg #[u, .int .i64 s.root] ∧ RNodes w u s.nodes ∧ (Rows.uptoBulk d ≤ 1048576 → Pl.Sm s.nodes) := by
  obtain ⟨cs, rfl, hsz⟩ := okWide_struct Tryd.underlying24 hv
  rw [cellsScene.1] at hsz
  obtain ⟨c0, c1, rfl⟩ := array2' hsz
  obtain ⟨fuel, hf⟩ := h
  obtain ⟨xs, n, _, hx, hl, hlen, hf⟩ := DataW.trod_struct Tryd.underlying24 hf
  obtain ⟨k1, k2, k3, k4, k5, k6, k7⟩ := cellsOne
  match xs, hlen with
  | [x0, x1], _ =>
    have f0 : DataW.trod enc Tryd.prog w 0 sp true n 22 [c0] = some x0 := by have := hf 0 _ rfl; simpa [k7, Value.cells] using this
    have f1 : DataW.trod enc Tryd.prog w 0 sp true n 3 [c1] = some x1 := by have := hf 1 _ rfl; simpa [k4, Value.cells] using this
    obtain ⟨u, l, e0, r0, s0⟩ := open_nodes f0
    obtain ⟨ro, e1, _, _⟩ := DataW.trod_int Tryd.underlying3 f1
    have h0 : c0 = u := by simpa [Value.cells] using e0
    have h1 : c1 = .int .i64 ro := by simpa [Value.cells] using e1
    subst h0; subst h1
    refine ⟨c0, ⟨l, ro⟩, rfl, r0, fun hB => s0 ?_⟩
    have hd : d = .agg [x0.1, x1.1] := by simpa using congrArg Prod.fst hx
    rw [hd] at hB
    simp only [Rows.uptoBulk, Rows.uptoBulkAll] at hB
    omega
theorem array5 {α : Type} {cs : Array α} (h : cs.size = 5) : ∃ c0 c1 c2 c3 c4, cs = #[c0, c1, c2, c3, c4] := by
  obtain ⟨l⟩ := cs
  match l, h with
  | [c0, c1, c2, c3, c4], _ => exact ⟨c0, c1, c2, c3, c4, rfl⟩
/-- Limits that are an argument. -/
theorem open_lim {r : Reach} {b0 : Nat} {v : Value} {d : DataW H} {ps : List MemPlace} (hv : Value.okWide Tryd.prog w r b0 26 v) (h : DataW.Trod enc Tryd.prog w 0 sp true 26 v d ps) :
    ∃ lim : Pl.Lim, v = limV lim := by
  obtain ⟨cs, rfl, hsz⟩ := okWide_struct Tryd.underlying26 hv
  rw [cellsScene.2] at hsz
  obtain ⟨c0, c1, c2, c3, c4, rfl⟩ := array5 hsz
  obtain ⟨fuel, hf⟩ := h
  obtain ⟨xs, n, _, hx, hl, hlen, hf⟩ := DataW.trod_struct Tryd.underlying26 hf
  obtain ⟨k1, k2, k3, k4, k5, k6, k7⟩ := cellsOne
  match xs, hlen with
  | [x0, x1, x2, x3, x4], _ =>
  have f0 : DataW.trod enc Tryd.prog w 0 sp true n 3 [c0] = some x0 := by have := hf 0 _ rfl; simpa [k4, Value.cells] using this
  have f1 : DataW.trod enc Tryd.prog w 0 sp true n 3 [c1] = some x1 := by have := hf 1 _ rfl; simpa [k4, Value.cells] using this
  have f2 : DataW.trod enc Tryd.prog w 0 sp true n 3 [c2] = some x2 := by have := hf 2 _ rfl; simpa [k4, Value.cells] using this
  have f3 : DataW.trod enc Tryd.prog w 0 sp true n 3 [c3] = some x3 := by have := hf 3 _ rfl; simpa [k4, Value.cells] using this
  have f4 : DataW.trod enc Tryd.prog w 0 sp true n 3 [c4] = some x4 := by have := hf 4 _ rfl; simpa [k4, Value.cells] using this
  obtain ⟨z0, e0, _, _⟩ := DataW.trod_int Tryd.underlying3 f0
  obtain ⟨z1, e1, _, _⟩ := DataW.trod_int Tryd.underlying3 f1
  obtain ⟨z2, e2, _, _⟩ := DataW.trod_int Tryd.underlying3 f2
  obtain ⟨z3, e3, _, _⟩ := DataW.trod_int Tryd.underlying3 f3
  obtain ⟨z4, e4, _, _⟩ := DataW.trod_int Tryd.underlying3 f4
  refine ⟨⟨z0, z1, z2, z3, z4⟩, ?_⟩
  have h0 : c0 = .int .i64 z0 := by simpa [Value.cells] using e0
  have h1 : c1 = .int .i64 z1 := by simpa [Value.cells] using e1
  have h2 : c2 = .int .i64 z2 := by simpa [Value.cells] using e2
  have h3 : c3 = .int .i64 z3 := by simpa [Value.cells] using e3
  have h4 : c4 = .int .i64 z4 := by simpa [Value.cells] using e4
  rw [h0, h1, h2, h3, h4]
  rfl
end
end Go.Proofs.YtdejljgoebcmpaaDoor
/- What the listed tables lay; a world that bears them. -/
namespace Go.Proofs.YtdejljgoebcmpaaDoor
open Go.ChangeShapes Go.WideShapes Go.ChangeAt Go.RowKit Go.Lib
set_option maxRecDepth 100000
theorem own : ownKnob Tryd.prog.godebug = none := by kernel_rfl
theorem laidOut : laidOutB Tryd.prog = true := by kernel_rfl
/-- The settled world, the two tables holding what their initialisers lay. -/
noncomputable def laidWorld (os : Os) : World :=
  let w0 := World.holding Tryd.prog os ⟨#[], #[], []⟩
  let put (h : Array Obj) (g : Nat) (cs : Array Value) : Array Obj := h.modify g fun
    | .cells _ t frozen => .cells cs t frozen
    | o => o
  let h1 := put w0.heap 0 (Lib.firstTab.map fun z => Value.int .u8 z).toArray
  let h2 := put h1 1 ((List.range 16).flatMap fun i => [Value.int .u8 (Lib.accLo i), Value.int .u8 (Lib.accHi i)]).toArray
  { w0 with heap := h2 }
theorem laid_data : ([("unicode/utf8.acceptRanges", Rows.laid_unicode_utf8_acceptRanges), ("unicode/utf8.first", Rows.laid_unicode_utf8_first)] : List (String × DataW Unit)) = [("unicode/utf8.acceptRanges", Lib.acceptData), ("unicode/utf8.first", Lib.firstData)] := by kernel_rfl
theorem laid_met (os : Os) (args : Array Value) : laidMet Tryd.prog [("unicode/utf8.acceptRanges", Rows.laid_unicode_utf8_acceptRanges), ("unicode/utf8.first", Rows.laid_unicode_utf8_first)] ((laidWorld os).forCall (fun _ _ => 0) ⟨#[], args, []⟩).memory := by
  rw [laid_data]
  exact (LaidIn.of_run (l := [("unicode/utf8.acceptRanges", Lib.acceptData), ("unicode/utf8.first", Lib.firstData)]) [1, 0] 8 (by kernel_rfl) (by kernel_rfl) (by kernel_rfl) (by kernel_rfl)).met
theorem tabs_of {W : World} (hL : laidMet Tryd.prog [("unicode/utf8.acceptRanges", Rows.laid_unicode_utf8_acceptRanges), ("unicode/utf8.first", Rows.laid_unicode_utf8_first)] W) : Lib.Utf8Tabs 0 1 W := by
  rw [laid_data] at hL
  exact utf8Tabs_of_readsT (ρ := Tryd.lays260_ren) (U8Types.of260 Tryd.lays260) ⟨by kernel_rfl, by kernel_rfl, by kernel_rfl, by kernel_rfl, by kernel_rfl, by kernel_rfl, by kernel_rfl⟩ (Lib.laidMet.reads hL (.tail _ (.head _))) (Lib.laidMet.reads hL (.head _))
end Go.Proofs.YtdejljgoebcmpaaDoor
/- Plain: the check sum by bits is the one by the table. No program in sight. -/
namespace Go.Proofs.YtdejljgoebcmpaaDoor.Pl
theorem crcBit_xor (a b : Nat) : crcBit (a ^^^ b) = crcBit a ^^^ crcBit b := by
  have h1 : (a ^^^ b) / 2 = a / 2 ^^^ b / 2 := Nat.xor_div_two
  have h2 : (a ^^^ b) % 2 = (a % 2 ^^^ b % 2) := by
    have := @Nat.xor_mod_two_pow a b 1
    simpa using this
  unfold crcBit
  rw [h1, h2]
  rcases Nat.mod_two_eq_zero_or_one a with ha | ha <;> rcases Nat.mod_two_eq_zero_or_one b with hb | hb <;> rw [ha, hb]
  · simp
  · simp [Nat.xor_assoc]
  · simp only [Nat.xor_zero, if_true, Nat.zero_ne_one, if_false]
    rw [Nat.xor_assoc, Nat.xor_assoc, Nat.xor_comm poly]
  · simp only [Nat.xor_self, Nat.zero_ne_one, if_false, if_true]
    rw [Nat.xor_assoc, Nat.xor_comm poly, Nat.xor_assoc, Nat.xor_self, Nat.xor_zero]
theorem crcBits_xor (k a b : Nat) : crcBits k (a ^^^ b) = crcBits k a ^^^ crcBits k b := by
  induction k generalizing a b with
  | zero => rfl
  | succ k ih =>
    show crcBits k (crcBit (a ^^^ b)) = crcBits k (crcBit a) ^^^ crcBits k (crcBit b)
    rw [crcBit_xor, ih]
theorem crcBits_high (k y : Nat) : crcBits k (2 ^ k * y) = y := by
  induction k with
  | zero => show 2 ^ 0 * y = y; simp
  | succ k ih =>
    show crcBits k (crcBit (2 ^ (k + 1) * y)) = y
    have : crcBit (2 ^ (k + 1) * y) = 2 ^ k * y := by
      unfold crcBit
      rw [Nat.pow_succ, Nat.mul_right_comm, if_neg (by omega), Nat.mul_div_cancel _ (by decide)]
    rw [this, ih]
theorem crcStep_bits (x b : Nat) : crcBits 8 (x ^^^ b) = crcStep x b := by
  have h1 : x = 2 ^ 8 * (x / 256) ^^^ x % 256 := by
    have h3 : x % 256 < 2 ^ 8 := by omega
    have : 2 ^ 8 * (x / 256) + x % 256 = 2 ^ 8 * (x / 256) ^^^ x % 256 := by
      apply Nat.eq_of_testBit_eq
      intro i
      rw [Nat.testBit_xor, Nat.testBit_two_pow_mul_add _ h3, Nat.testBit_two_pow_mul]
      by_cases hi : i < 8
      · simp [hi, show ¬ 8 ≤ i by omega]
      · have : (x % 256).testBit i = false := Nat.testBit_lt_two_pow (Nat.lt_of_lt_of_le h3 (Nat.pow_le_pow_right (by decide) (by omega)))
        simp [hi, show 8 ≤ i by omega, this]
    omega
  conv => lhs; rw [h1, Nat.xor_assoc]
  rw [crcBits_xor, crcBits_high]
  rfl
/-- The first k bytes' register. -/
theorem crcGo_take (x : Nat) (l : Bytes) (k : Nat) (h : k < l.length) : crcGo x (l.take (k + 1)) = crcStep (crcGo x (l.take k)) l[k].toNat := by
  rw [take_snoc l k h]; unfold crcGo; rw [List.foldl_append]; rfl
end Go.Proofs.YtdejljgoebcmpaaDoor.Pl
/- Plain: numbers by bytes, there and back; sums by bytes. No program in sight. -/
namespace Go.Proofs.YtdejljgoebcmpaaDoor.Pl
theorem vPut_lt {n : Nat} (h : n < 128) : vPut n = [UInt8.ofNat n] := by unfold vPut; rw [if_pos h]
theorem vPut_ge {n : Nat} (h : ¬ n < 128) : vPut n = UInt8.ofNat (128 + n % 128) :: vPut (n / 128) := by
  conv => lhs; unfold vPut
  rw [if_neg h]
theorem vPut_pos (n : Nat) : 0 < (vPut n).length := by
  by_cases h : n < 128
  · rw [vPut_lt h]; simp
  · rw [vPut_ge h]; simp
theorem u8_of {n : Nat} (h : n < 256) : (UInt8.ofNat n).toNat = n := by simp; omega
theorem vGo_put : ∀ (m n : Nat), n ≤ m → ∀ (i a : Nat) (r : Bytes), n * 2 ^ (7 * i) < 2 ^ 64 → (0 < i → 0 < n) → vGo (vPut n ++ r) i a = (a + n * 2 ^ (7 * i), i + (vPut n).length, 0) := by
  intro m
  induction m with
  | zero =>
    intro n hn i a r hb hp
    obtain rfl : n = 0 := by omega
    have hi : i = 0 := by
      rcases Nat.eq_zero_or_pos i with h | h
      · exact h
      · have := hp h; omega
    subst hi
    rw [vPut_lt (by omega)]
    simp [vGo]
  | succ m ih =>
    intro n hn i a r hb hp
    have h9 : i = 9 → n ≤ 1 := by
      rintro rfl
      omega
    by_cases h : n < 128
    · rw [vPut_lt h]
      show vGo (UInt8.ofNat n :: r) i a = _
      unfold vGo
      rw [u8_of (by omega), if_neg (by omega), if_pos h, Nat.mod_eq_of_lt h]
      simp
    · rw [vPut_ge h]
      show vGo (UInt8.ofNat (128 + n % 128) :: (vPut (n / 128) ++ r)) i a = _
      unfold vGo
      rw [u8_of (by omega), if_neg (by omega), if_neg (by omega)]
      have e1 : (128 + n % 128) % 128 = n % 128 := by omega
      have e2 : 2 ^ (7 * (i + 1)) = 128 * 2 ^ (7 * i) := by rw [show 7 * (i + 1) = 7 * i + 7 from by omega, Nat.pow_add, Nat.mul_comm]
      have e3 : n * 2 ^ (7 * i) = n % 128 * 2 ^ (7 * i) + n / 128 * (128 * 2 ^ (7 * i)) := by
        conv => lhs; rw [show n = n % 128 + 128 * (n / 128) from by omega]
        rw [Nat.add_mul, Nat.mul_comm 128, Nat.mul_assoc]
      rw [e1, ih (n / 128) (by omega) (i + 1) _ r (by rw [e2]; omega) (by omega), e2]
      simp only [List.length_cons]
      rw [e3]
      simp only [Prod.mk.injEq, and_true]
      omega
theorem vGo_inv : ∀ (l : Bytes) (i a : Nat) (n c : Nat), i ≤ 9 → vGo l i a = (n, c, 0) → ∃ m r, l = vPut m ++ r ∧ n = a + m * 2 ^ (7 * i) ∧ c = i + (vPut m).length ∧ (0 < i → 0 < m) := by
  intro l
  induction l with
  | nil => intro i a n c _ h; simp [vGo] at h
  | cons x l ih =>
    intro i a n c hi h
    have hx := UInt8.toNat_lt x
    unfold vGo at h
    by_cases h1 : (i = 9 ∧ 1 < x.toNat) ∨ (x.toNat = 0 ∧ 0 < i)
    · rw [if_pos h1] at h; simp at h
    · rw [if_neg h1] at h
      by_cases h2 : x.toNat < 128
      · rw [if_pos h2] at h
        simp only [Prod.mk.injEq, and_true] at h
        refine ⟨x.toNat, l, ?_, ?_, ?_, by omega⟩
        · rw [vPut_lt h2]; simp
        · rw [← h.1, Nat.mod_eq_of_lt h2]
        · rw [vPut_lt h2, ← h.2]; simp
      · rw [if_neg h2] at h
        obtain ⟨m, r, rfl, hn, hc, hm⟩ := ih (i + 1) _ n c (by omega) h
        have hm := hm (by omega)
        refine ⟨x.toNat % 128 + 128 * m, r, ?_, ?_, ?_, by omega⟩
        · rw [vPut_ge (n := x.toNat % 128 + 128 * m) (by omega), show (x.toNat % 128 + 128 * m) / 128 = m from by omega, show 128 + (x.toNat % 128 + 128 * m) % 128 = x.toNat from by omega]
          simp
        · rw [hn, show 7 * (i + 1) = 7 * i + 7 from by omega, Nat.pow_add, Nat.add_mul, Nat.mul_assoc 128, Nat.add_assoc]
          congr 2
          rw [Nat.mul_comm (2 ^ (7 * i)), ← Nat.mul_assoc, Nat.mul_comm m (2 ^ 7), Nat.mul_assoc]
        · rw [hc, vPut_ge (n := x.toNat % 128 + 128 * m) (by omega), show (x.toNat % 128 + 128 * m) / 128 = m from by omega]
          simp only [List.length_cons]; omega
theorem zag_zig (n : Int) : zag (zig n) = n := by
  unfold zag zig
  split <;> split <;> omega
theorem zig_zag (n : Nat) : zig (zag n) = n := by
  unfold zag zig
  split <;> split <;> omega
theorem zag_bd (n : Nat) (h : n < 18446744073709551616) : -9223372036854775808 ≤ zag n ∧ zag n ≤ 9223372036854775807 := by
  unfold zag; split <;> omega
theorem crcGet_put (s : Nat) (h : s < 4294967296) : crcGet (crcPut s) = s := by
  unfold crcGet crcPut
  simp
  omega
theorem crcPut_get (l : Bytes) (h : l.length = 4) : l = crcPut (crcGet l) := by
  match l, h with
  | [a, b, c, d], _ =>
    have ha := UInt8.toNat_lt a
    have hb := UInt8.toNat_lt b
    have hc := UInt8.toNat_lt c
    have hd := UInt8.toNat_lt d
    have e : crcGet [a, b, c, d] = a.toNat + 256 * b.toNat + 65536 * c.toNat + 16777216 * d.toNat := rfl
    unfold crcPut
    rw [e]
    have key : ∀ (x : UInt8) (n : Nat), n % 256 = x.toNat → x = UInt8.ofNat n := fun x n h => by
      apply UInt8.toNat_inj.1
      rw [← h]; simp
    rw [← key a _ (by omega), ← key b _ (by omega), ← key c _ (by omega), ← key d _ (by omega)]
end Go.Proofs.YtdejljgoebcmpaaDoor.Pl
/- utf.First. -/
namespace Go.Proofs.YtdejljgoebcmpaaDoor
open Go.RowKit

namespace Pl
/-- Where a text isn't UTF-8 any more, from a place on. -/
def uGo (s : ByteArray) : Nat → Nat → Int
  | 0, _ => -1
  | k + 1, pos => if pos < s.size then (if (Utf8.decode s pos).1 = 65533 ∧ (Utf8.decode s pos).2 ≤ 1 then (pos : Int) else uGo s k (pos + (Utf8.decode s pos).2)) else -1
def uFirst (s : ByteArray) : Int := uGo s (s.size + 1) 0
end Pl

theorem tabs_below {w w' : World} (h : Lib.Utf8Tabs 0 1 w) (hb : Below w.heap.size w w') : Lib.Utf8Tabs 0 1 w' :=
  ⟨fun c hc => (hb.cell (World.block_lt_of_cell? w _ (h.1 c hc))).trans (h.1 c hc),
   fun i hi => ⟨(hb.cell (World.block_lt_of_cell? w _ (h.2 i hi).1)).trans (h.2 i hi).1, (hb.cell (World.block_lt_of_cell? w _ (h.2 i hi).2)).trans (h.2 i hi).2⟩⟩
open Lib in
theorem dec_ext (s : ByteArray) (pos : Nat) (h : pos < s.size) : decodeGo (s.extract pos s.size) = Utf8.decode s pos := by
  have hx : (s.extract pos s.size).data.toList = s.data.toList.drop pos := by
    rw [extract_data, List.take_of_length_le (by rw [List.length_drop, ← size_eq]; omega)]
  have hsz : (s.extract pos s.size).size ≠ 0 := by rw [size_eq, hx, List.length_drop, ← size_eq]; omega
  unfold decodeGo
  rw [if_neg hsz, ← decodeL_drop s pos, ← hx]
  rfl

set_option maxHeartbeats 1000000 in
set_option maxRecDepth 100000 in
theorem utf_first (s : ByteArray) (w : World) (hT : Lib.Utf8Tabs 0 1 w) (hb : s.size ≤ 140737488355328) :
    Calls Tryd.prog 81 #[.string s] w fun en w' => en = .returned (.int .i64 (Pl.uFirst s)) ∧ Below w.heap.size w w' := by
  have HT := Lib.hid hT
  clear hT
  go_enter Tryd.func81, Tryd.ntmps81
  go_wp2_with fail
  go_loopg [] (s.size + 1) (fun gf wx => ∃ pos : Nat, wx.heap[w.heap.size]? = some (.stringIter s pos) ∧ Below w.heap.size w wx ∧ Hid (Pl.uGo s gf pos = Pl.uFirst s) ∧ s.size + 1 ≤ pos + gf)
  case atStart => exact ⟨0, World.iter_heap w s 0, (Below.refl _ w).alloc (Nat.le_refl _) _, rfl, by omega⟩
  case round =>
    obtain ⟨pos, hit, hbw, hleft, hfu⟩ := hrel
    by_cases hps : pos < s.size
    · obtain ⟨g', rfl⟩ : ∃ g', gk = g' + 1 := ⟨gk - 1, by omega⟩
      have hnx : ∀ ty, (Instr.next (.pointer (some ⟨w.heap.size, 0, none⟩)) true ty).run Tryd.prog wr = _ := fun ty => Lib.run_next_any_at wr w.heap.size s pos ty hit hps
      have hwd := Lib.width_pos s pos
      have hu := hleft.out
      unfold Pl.uGo at hu
      rw [if_pos hps] at hu
      have HD := Lib.hid (dec_ext s pos hps)
      obtain ⟨R, hR⟩ : ∃ R, (Utf8.decode s pos).1 = R := ⟨_, rfl⟩
      obtain ⟨K, hK⟩ : ∃ K, (Utf8.decode s pos).2 = K := ⟨_, rfl⟩
      rw [hR, hK] at hnx hu
      rw [hK] at hwd
      have hit2 := Lib.iterAt_heap wr w.heap.size s pos (pos + K) hit
      have hbw2 := Lib.below_iterAt hbw (k := w.heap.size) (Nat.le_refl _) s (pos + K)
      obtain ⟨W, hWd⟩ : ∃ W, wr.iterAt w.heap.size s (pos + K) = W := ⟨_, rfl⟩
      rw [hWd] at hnx hit2 hbw2
      have hlt := (Array.getElem?_eq_some_iff.1 hit2).1
      have HI := Lib.hid hit2
      have HU := Lib.hid hu
      have HR := Lib.hid hR
      have HK := Lib.hid hK
      clear hR hK hu hit2 hit hleft hWd
      by_cases hr : R = 65533
      · have r1 : ((R : Int) != 65533) = false := by rw [bne_eq_false_iff_eq]; omega
        have r2 : (R != 65533) = false := by rw [bne_eq_false_iff_eq]; omega
        have hc := Tryd.utf8_DecodeRuneInString (s.extract pos s.size) W (tabs_below HT.out hbw2)
        rw [HD.out, HR.out, HK.out] at hc
        have HC := Lib.hid hc
        clear hc
        go_wp2_with fail
        refine HC.out.mono ?_
        rintro en w1 ⟨rfl, hb1⟩
        have hb3 : Below w.heap.size w w1 := hbw2.trans (hb1.mono hbw2.size)
        have HI1 : Hid (w1.heap[w.heap.size]? = _) := (hb1.block _ hlt).trans HI.out
        clear hb1 HC HD
        by_cases hk1 : K ≤ 1
        · have k1 : decide ((K : Int) ≤ 1) = true := decide_eq_true (by omega)
          have k2 : decide (K ≤ 1) = true := decide_eq_true hk1
          have hu2 : Hid ((pos : Int) = Pl.uFirst s) := by have := HU.out; rw [if_pos ⟨hr, hk1⟩] at this; exact this
          go_wp2_with fail
          go_ret
          exact ⟨ret_int hu2.out, hb3⟩
        · have k1 : decide ((K : Int) ≤ 1) = false := decide_eq_false (by omega)
          have k2 : decide (K ≤ 1) = false := decide_eq_false hk1
          have hu2 : Hid (Pl.uGo s g' (pos + K) = Pl.uFirst s) := by have := HU.out; rw [if_neg (fun h => hk1 h.2)] at this; exact this
          go_wp2_with fail
          go_roundg g'
          case measure => omega
          case rel => exact ⟨pos + K, HI1.out, hb3, hu2, by omega⟩
      · have r1 : ((R : Int) != 65533) = true := by rw [bne_iff_ne]; omega
        have r2 : (R != 65533) = true := by rw [bne_iff_ne]; omega
        have hu2 : Hid (Pl.uGo s g' (pos + K) = Pl.uFirst s) := by have := HU.out; rw [if_neg (fun h => hr h.1)] at this; exact this
        go_wp2_with fail
        go_roundg g'
        case measure => omega
        case rel => exact ⟨pos + K, HI.out, hbw2, hu2, by omega⟩
    · have hnx : ∀ ty, (Instr.next (.pointer (some ⟨w.heap.size, 0, none⟩)) true ty).run Tryd.prog wr = _ := fun ty => Lib.run_next_end_at wr w.heap.size s pos ty hit hps
      have hv : Hid (Pl.uFirst s = -1) := by
        have := hleft.out
        cases gk with
        | zero => exact this.symm
        | succ g => unfold Pl.uGo at this; rw [if_neg hps] at this; exact this.symm
      clear hleft
      go_wp2_with fail
      go_ret
      exact ⟨ret_int hv.out.symm, hbw⟩
end Go.Proofs.YtdejljgoebcmpaaDoor
/- field.numbers. -/
namespace Go.Proofs.YtdejljgoebcmpaaDoor
open Go.RowKit

namespace Pl
/-- The first k numbers are of their classes. -/
def numsTo (l cs : List Int) (k : Nat) : Prop := ∀ j, j < k → inC (cs.getD j 0) (l.getD j 0) = true
instance (l cs : List Int) (k : Nat) : Decidable (numsTo l cs k) := inferInstanceAs (Decidable (∀ j, j < k → inC (cs.getD j 0) (l.getD j 0) = true))
def nums (l cs : List Int) : Bool := decide (l.length = cs.length ∧ numsTo l cs l.length)
theorem numsTo_succ {l cs : List Int} {k : Nat} (h : numsTo l cs k) (h1 : inC (cs.getD k 0) (l.getD k 0) = true) : numsTo l cs (k + 1) := by
  intro j hj
  rcases Nat.lt_succ_iff_lt_or_eq.1 hj with h2 | rfl
  · exact h j h2
  · exact h1
end Pl
open Pl (numsTo_succ)

set_option maxHeartbeats 1000000 in
set_option maxRecDepth 100000 in
theorem fld_numbers (v u : Value) (l cs : List Int) (w : World) (hv : RNums w v l) (hu : RNums w u cs) (hl : l.length ≤ 140737488355328) (hc : cs.length ≤ 140737488355328) :
    Calls Tryd.prog 78 #[v, u] w fun en w' => en = .returned (.bool (Pl.nums l cs)) ∧ Below w.heap.size w w' := by
  obtain ⟨A, c1, rfl, hA⟩ := hv
  obtain ⟨B, c2, rfl, hB⟩ := hu
  by_cases hlen : l.length = cs.length
  rotate_left
  · have t1 : ((l.length : Int) != cs.length) = true := by rw [bne_iff_ne]; omega
    have t2 : (l.length != cs.length) = true := by rw [bne_iff_ne]; omega
    have HV : Hid (Pl.nums l cs = false) := decide_eq_false (fun h => hlen h.1)
    clear hA hB
    go_enter Tryd.func78, Tryd.ntmps78
    go_wp2_with fail
    go_ret
    exact ⟨ret_bool HV.out.symm, Below.refl _ _⟩
  have t1 : ((l.length : Int) != cs.length) = false := by rw [bne_eq_false_iff_eq]; omega
  have t2 : (l.length != cs.length) = false := by rw [bne_eq_false_iff_eq]; omega
  have HL := Lib.hid hlen
  clear hlen
  have HA := Lib.hid hA
  have HB := Lib.hid hB
  clear hA hB
  go_enter Tryd.func78, Tryd.ntmps78
  go_wp2_with fail
  go_loopw [14] (fun i wr => ∃ k : Nat, k ≤ l.length ∧ i = .int .i64 k ∧ Hid (Pl.numsTo l cs k) ∧ Below w.heap.size w wr) (fun i _ => l.length - (intOf i).toNat)
  case atStart => exact ⟨0, by omega, rfl, fun j hj => by omega, Below.refl _ _⟩
  case round =>
    obtain ⟨k, hk, rfl, hO, hb⟩ := hrel
    have hln := HL.out
    by_cases hlt : k < l.length
    · have hlt2 : k < cs.length := by omega
      obtain ⟨ad, hAe, hca⟩ := HA.out (by omega)
      obtain ⟨bd, hBe, hcb⟩ := HB.out (by omega)
      subst hAe hBe
      have ea := hca k hlt
      have eb := hcb k hlt2
      replace ea := (hb.cell (World.block_lt_of_cell? w _ ea)).trans ea
      replace eb := (hb.cell (World.block_lt_of_cell? w _ eb)).trans eb
      have tl : decide ((k : Int) < l.length) = true := decide_eq_true (by omega)
      have ga : Hid (l[k] = l.getD k 0) := by unfold Hid; rw [List.getD_eq_getElem?_getD, List.getElem?_eq_getElem hlt]; rfl
      have gb : Hid (cs[k] = cs.getD k 0) := by unfold Hid; rw [List.getD_eq_getElem?_getD, List.getElem?_eq_getElem hlt2]; rfl
      clear hca hcb hln
      generalize l[k] = x at *
      generalize cs[k] = y at *
      go_wp2_with fail
      refine (sch_in y x wr).mono ?_
      rintro en w1 ⟨rfl, rfl⟩
      by_cases hin : Pl.inC y x = true
      · rw [hin]
        go_wp2_with fail
        go_roundw
        case rel => exact ⟨k + 1, by omega, by go_num, numsTo_succ hO.out (by rw [← ga.out, ← gb.out]; exact hin), hb⟩
        case measure => simp [intOf]; omega
      · have hin' : Pl.inC y x = false := by simpa using hin
        have HV : Hid (Pl.nums l cs = false) := decide_eq_false (fun h => by have := h.2 k hlt; rw [← ga.out, ← gb.out, hin'] at this; cases this)
        rw [hin']
        go_wp2_with fail
        go_ret
        exact ⟨ret_bool HV.out.symm, hb⟩
    · obtain rfl : k = l.length := by omega
      have HV : Hid (Pl.nums l cs = true) := decide_eq_true ⟨HL.out, hO.out⟩
      clear hln
      go_wp2_with fail
      go_ret
      exact ⟨ret_bool HV.out.symm, hb⟩
end Go.Proofs.YtdejljgoebcmpaaDoor
/- Texts that aren't UTF-8: Check$1, slices.IndexFunc, ContainsFunc. -/
namespace Go.Proofs.YtdejljgoebcmpaaDoor
open Go.RowKit

namespace Pl
def badText (s : ByteArray) : Bool := decide (0 ≤ uFirst s)
def idxBad : List ByteArray → Nat → Int
  | [], _ => -1
  | s :: l, k => if badText s then (k : Int) else idxBad l (k + 1)
theorem idxBad_cons (s : ByteArray) (l : List ByteArray) (k : Nat) : idxBad (s :: l) k = if badText s then (k : Int) else idxBad l (k + 1) := rfl
end Pl

set_option maxRecDepth 100000 in
theorem chk_1 (s : ByteArray) (w : World) (hT : Lib.Utf8Tabs 0 1 w) (hb : s.size ≤ 140737488355328) :
    Calls Tryd.prog 80 #[.string s] w fun en w' => en = .returned (.bool (Pl.badText s)) ∧ Below w.heap.size w w' := by
  have H := Lib.hid (utf_first s w hT hb)
  clear hT
  go_enter Tryd.func80, Tryd.ntmps80
  go_wp2_with fail
  refine H.out.mono ?_
  rintro en w1 ⟨rfl, hB⟩
  go_wp2_with fail
  go_ret
  exact ⟨rfl, hB⟩

set_option maxHeartbeats 1000000 in
set_option maxRecDepth 100000 in
theorem idx_bad (v : Value) (l : List ByteArray) (w : World) (hT : Lib.Utf8Tabs 0 1 w) (hv : RStrs w v l) (hl : l.length ≤ 140737488355328) (hs : ∀ s ∈ l, s.size ≤ 140737488355328) :
    Calls Tryd.prog 85 #[v, .func (.func 80) #[] #[]] w fun en w' => en = .returned (.int .i64 (Pl.idxBad l 0)) ∧ Below w.heap.size w w' := by
  obtain ⟨A, c1, rfl, hA⟩ := hv
  have HA := Lib.hid hA
  have HT := Lib.hid hT
  have HS := Lib.hid hs
  clear hA hT hs
  go_enter Tryd.func85, Tryd.ntmps85
  go_wp2_with fail
  go_loopw [8] (fun i wr => ∃ k : Nat, k ≤ l.length ∧ i = .int .i64 k ∧ Hid (Pl.idxBad (l.drop k) k = Pl.idxBad l 0) ∧ Below w.heap.size w wr) (fun i _ => l.length - (intOf i).toNat)
  case atStart => exact ⟨0, by omega, rfl, rfl, Below.refl _ _⟩
  case round =>
    obtain ⟨k, hk, rfl, hO, hb⟩ := hrel
    by_cases hlt : k < l.length
    · obtain ⟨ad, hAe, hca⟩ := HA.out (by omega)
      subst hAe
      have ea := hca k hlt
      replace ea := (hb.cell (World.block_lt_of_cell? w _ ea)).trans ea
      have tl : decide ((k : Int) < l.length) = true := decide_eq_true (by omega)
      have hd : Hid (l.drop k = l[k] :: l.drop (k + 1)) := List.drop_eq_getElem_cons hlt
      have hsz : Hid (l[k].size ≤ 140737488355328) := HS.out _ (List.getElem_mem hlt)
      clear hca
      generalize l[k] = x at *
      have HC := Lib.hid (chk_1 x wr (tabs_below HT.out hb) hsz.out)
      go_wp2_with fail
      refine HC.out.mono ?_
      rintro en w1 ⟨rfl, hb1⟩
      have hb2 : Below w.heap.size w w1 := hb.trans (hb1.mono hb.size)
      have hO2 := hO.out
      rw [hd.out, Pl.idxBad_cons] at hO2
      clear hb1 HC
      by_cases hin : Pl.badText x = true
      · rw [hin]
        rw [if_pos hin] at hO2
        have HV := Lib.hid hO2
        clear hO2
        go_wp2_with fail
        go_ret
        exact ⟨ret_int HV.out, hb2⟩
      · have hin' : Pl.badText x = false := by simpa using hin
        rw [hin']
        rw [if_neg hin] at hO2
        have HV := Lib.hid hO2
        clear hO2
        go_wp2_with fail
        go_roundw
        case rel => exact ⟨k + 1, by omega, by go_num, HV, hb2⟩
        case measure => simp [intOf]; omega
    · obtain rfl : k = l.length := by omega
      have HV : Hid (Pl.idxBad l 0 = -1) := by have := hO.out; rw [List.drop_length] at this; exact this.symm
      clear hO
      go_wp2_with fail
      go_ret
      exact ⟨ret_int HV.out.symm, hb⟩

set_option maxRecDepth 100000 in
theorem has_bad (v : Value) (l : List ByteArray) (w : World) (hT : Lib.Utf8Tabs 0 1 w) (hv : RStrs w v l) (hl : l.length ≤ 140737488355328) (hs : ∀ s ∈ l, s.size ≤ 140737488355328) :
    Calls Tryd.prog 79 #[v, .func (.func 80) #[] #[]] w fun en w' => en = .returned (.bool (decide (0 ≤ Pl.idxBad l 0))) ∧ Below w.heap.size w w' := by
  have H := Lib.hid (idx_bad v l w hT hv hl hs)
  clear hT hv hs
  go_enter Tryd.func79, Tryd.ntmps79
  go_wp2_with fail
  refine H.out.mono ?_
  rintro en w1 ⟨rfl, hB⟩
  go_wp2_with fail
  go_ret
  exact ⟨rfl, hB⟩
end Go.Proofs.YtdejljgoebcmpaaDoor
/- field.Check. -/
namespace Go.Proofs.YtdejljgoebcmpaaDoor
open Go.RowKit

namespace Pl
/-- What is wrong with a node's fields, by a spec; n kids. -/
def fieldErr (ints : List Int) (texts : List ByteArray) (n : Nat) (s : Spec) : Int :=
  if nums ints s.ints = false then 10 else if texts.length ≠ s.texts ∨ 0 ≤ idxBad texts 0 then 11
  else if (n : Int) < s.least ∨ (0 ≤ s.most ∧ s.most < n) then 12 else 0
end Pl

set_option maxHeartbeats 2000000 in
set_option maxRecDepth 100000 in
theorem fld_check (kind : Int) (vi vt : Value) (A : Option Addr) (n c : Nat) (u : Value) (ints : List Int) (texts : List ByteArray) (s : Pl.Spec) (w : World) (hT : Lib.Utf8Tabs 0 1 w) (hi : RNums w vi ints) (ht : RStrs w vt texts) (hu : RNums w u s.ints)
    (h1 : ints.length ≤ 140737488355328) (h2 : s.ints.length ≤ 140737488355328) (h3 : texts.length ≤ 140737488355328) (h4 : ∀ t ∈ texts, t.size ≤ 140737488355328) (h5 : s.least ≤ 100) (h6 : n ≤ 140737488355328) (h7 : s.texts ≤ 100) :
    Calls Tryd.prog 66 #[.agg #[.int .i64 kind, vi, vt, .slice A n c], specV u s] w fun en w' => en = .returned (.int .i64 (Pl.fieldErr ints texts n s)) ∧ Below w.heap.size w w' := by
  obtain ⟨si, st, sl, sm⟩ := s
  have HN := Lib.hid (fun w1 (hb : Below w.heap.size w w1) => fld_numbers vi u ints si w1 (hi.below hb) (hu.below hb) h1 h2)
  have HB := Lib.hid (fun w1 (hb : Below w.heap.size w w1) => has_bad vt texts w1 (tabs_below hT hb) (ht.below hb) h3 h4)
  obtain ⟨TA, tc, rfl, _⟩ := ht
  obtain ⟨IA, ic, rfl, _⟩ := hi
  obtain ⟨UA, uc, rfl, _⟩ := hu
  simp only [specV] at *
  clear hT h4
  go_enter Tryd.func66, Tryd.ntmps66
  go_wp2_with fail
  have hB0 : Below w.heap.size w ((w.alloc (.cells #[.int .i64 kind, .slice IA ints.length ic, .slice TA texts.length tc, .slice A n c] 43)).alloc (.cells #[.slice UA si.length uc, .int .i64 st, .int .i64 sl, .int .i64 sm] 115)) := ((Below.refl _ _).alloc (Nat.le_refl _) _).alloc (by simp) _
  have hN0 : Hid (((w.alloc (.cells #[.int .i64 kind, .slice IA ints.length ic, .slice TA texts.length tc, .slice A n c] 43)).alloc (.cells #[.slice UA si.length uc, .int .i64 st, .int .i64 sl, .int .i64 sm] 115)).heap[w.heap.size]? = some (.cells #[.int .i64 kind, .slice IA ints.length ic, .slice TA texts.length tc, .slice A n c] 43 (0, 0))) := (Below.heap_alloc _ _ _ (by simp)).trans (heap_alloc_new w _)
  have hS0 : Hid (((w.alloc (.cells #[.int .i64 kind, .slice IA ints.length ic, .slice TA texts.length tc, .slice A n c] 43)).alloc (.cells #[.slice UA si.length uc, .int .i64 st, .int .i64 sl, .int .i64 sm] 115)).heap[w.heap.size + 1]? = some (.cells #[.slice UA si.length uc, .int .i64 st, .int .i64 sl, .int .i64 sm] 115 (0, 0))) := by
    have := heap_alloc_new (w.alloc (.cells #[.int .i64 kind, .slice IA ints.length ic, .slice TA texts.length tc, .slice A n c] 43)) (.cells #[.slice UA si.length uc, .int .i64 st, .int .i64 sl, .int .i64 sm] 115); rwa [show (w.alloc (.cells #[.int .i64 kind, .slice IA ints.length ic, .slice TA texts.length tc, .slice A n c] 43)).heap.size = w.heap.size + 1 from by simp] at this
  refine (HN.out _ hB0).mono ?_
  rintro en w1 ⟨rfl, hb1⟩
  have HB1 : Hid (Below w.heap.size w w1) := hB0.trans (hb1.mono hB0.size)
  have hN1 : Hid (w1.heap[w.heap.size]? = _) := (hb1.block _ (Array.getElem?_eq_some_iff.1 hN0.out).1).trans hN0.out
  have hS1 : Hid (w1.heap[w.heap.size + 1]? = _) := (hb1.block _ (Array.getElem?_eq_some_iff.1 hS0.out).1).trans hS0.out
  clear hb1 hB0 hN0 hS0 HN
  by_cases hnum : Pl.nums ints si = true
  rotate_left
  · have hnum' : Pl.nums ints si = false := by simpa using hnum
    have HV : Hid (Pl.fieldErr ints texts n ⟨si, st, sl, sm⟩ = 10) := if_pos hnum'
    rw [hnum']
    go_wp2_with fail
    go_ret
    exact ⟨ret_int HV.out.symm, HB1.out⟩
  rw [hnum]
  obtain ⟨a0, a1, a2, a3⟩ := cells4 hN1.out
  obtain ⟨b0, b1, b2, b3⟩ := cells4 hS1.out
  by_cases hlen : texts.length = st
  rotate_left
  · have q1 : ((texts.length : Int) != st) = true := by rw [bne_iff_ne]; omega
    have q2 : (texts.length != st) = true := by rw [bne_iff_ne]; omega
    have HV : Hid (Pl.fieldErr ints texts n ⟨si, st, sl, sm⟩ = 11) := by unfold Hid Pl.fieldErr; rw [if_neg (by simp [hnum]), if_pos (.inl hlen)]
    clear hlen
    go_wp2_with fail
    go_ret
    exact ⟨ret_int HV.out.symm, HB1.out⟩
  have q1 : ((texts.length : Int) != st) = false := by rw [bne_eq_false_iff_eq]; omega
  have q2 : (texts.length != st) = false := by rw [bne_eq_false_iff_eq]; omega
  have HL := Lib.hid hlen
  clear hlen
  go_wp2_with fail
  refine (HB.out _ HB1.out).mono ?_
  rintro en w2 ⟨rfl, hb2⟩
  have HB2 : Hid (Below w.heap.size w w2) := HB1.out.trans (hb2.mono HB1.out.size)
  have hN2 : Hid (w2.heap[w.heap.size]? = _) := (hb2.block _ (Array.getElem?_eq_some_iff.1 hN1.out).1).trans hN1.out
  have hS2 : Hid (w2.heap[w.heap.size + 1]? = _) := (hb2.block _ (Array.getElem?_eq_some_iff.1 hS1.out).1).trans hS1.out
  clear a0 a1 a2 a3 b0 b1 b2 b3 hb2 HB1 hN1 hS1 HB
  by_cases hbad : 0 ≤ Pl.idxBad texts 0
  · have q3 : decide (0 ≤ Pl.idxBad texts 0) = true := decide_eq_true hbad
    have HV : Hid (Pl.fieldErr ints texts n ⟨si, st, sl, sm⟩ = 11) := by unfold Hid Pl.fieldErr; rw [if_neg (by simp [hnum]), if_pos (.inr hbad)]
    rw [q3]
    go_wp2_with fail
    go_ret
    exact ⟨ret_int HV.out.symm, HB2.out⟩
  have q3 : decide (0 ≤ Pl.idxBad texts 0) = false := decide_eq_false hbad
  have HV : Hid (Pl.fieldErr ints texts n ⟨si, st, sl, sm⟩ = if (n : Int) < sl ∨ (0 ≤ sm ∧ sm < n) then 12 else 0) := by
    unfold Hid Pl.fieldErr; rw [if_neg (by simp [hnum]), if_neg (by rw [HL.out]; simp; omega)]
  rw [q3]
  clear hbad q3 hnum
  obtain ⟨a0, a1, a2, a3⟩ := cells4 hN2.out
  obtain ⟨b0, b1, b2, b3⟩ := cells4 hS2.out
  go_wp2_with fail
  all_goals
    go_ret
    refine ⟨ret_int ?_, HB2.out⟩
    rw [HV.out]
    first | rw [if_pos (by omega)] | rw [if_neg (by omega)]
end Go.Proofs.YtdejljgoebcmpaaDoor
/- A region that draws its order, by what each operation yields and keeps: each operation is looked at once. No program in sight. -/
namespace Go.Proofs.YtdejljgoebcmpaaDoor
open Go

theorem put_comm (a : Act) {d d' : Option Tmp} (x y : Value) (h : ∀ t, d = some t → d' ≠ some t) : (a.put d x).put d' y = (a.put d' y).put d x := by
  cases d with
  | none => rfl
  | some t =>
    cases d' with
    | none => rfl
    | some t' =>
      have hne : t ≠ t' := fun e => h t rfl (by rw [e])
      simp only [Act.put]
      congr 1
      rw [Array.setIfInBounds_comm _ _ hne]
theorem eval_put_same {a : Act} {t : Tmp} {x : Value} (h : t < a.tmps.size) : (a.put (some t) x).eval (.tmp t) = x := by
  simp [Act.put, Act.eval, h]
theorem eval_put_other {a : Act} {d : Option Tmp} {t : Tmp} {x : Value} (h : d ≠ some t) : (a.put d x).eval (.tmp t) = a.eval (.tmp t) := by
  cases d with
  | none => rfl
  | some t' =>
    have hne : t' ≠ t := fun e => h (by rw [e])
    simp [Act.put, Act.eval, Array.getElem?_setIfInBounds, hne]
theorem eval_get (a : Act) (t : Tmp) : a.eval (.tmp t) = a.tmps[t]?.getD undef := by simp [Act.eval]
theorem size_put (a : Act) (d : Option Tmp) (x : Value) : (a.put d x).tmps.size = a.tmps.size := by
  cases d <;> simp [Act.put]

/-- The puts of those that are done. -/
def putL : List (Nat × Option Tmp) → (Nat → Bool) → (Nat → Value) → Act → Act
  | [], _, _, a => a
  | (i, d) :: r, L, v, a => putL r L v (if L i then a.put d (v i) else a)
theorem putL_size (l : List (Nat × Option Tmp)) (L : Nat → Bool) (v : Nat → Value) (a : Act) : (putL l L v a).tmps.size = a.tmps.size := by
  induction l generalizing a with
  | nil => rfl
  | cons p r ih =>
    obtain ⟨i, d⟩ := p
    unfold putL
    rw [ih]
    split
    · exact size_put _ _ _
    · rfl
theorem putL_put (l : List (Nat × Option Tmp)) (L : Nat → Bool) (v : Nat → Value) (a : Act) (d : Option Tmp) (x : Value) (h : ∀ p ∈ l, ∀ t, p.2 = some t → d ≠ some t) : (putL l L v a).put d x = putL l L v (a.put d x) := by
  induction l generalizing a with
  | nil => rfl
  | cons p r ih =>
    obtain ⟨i, d'⟩ := p
    unfold putL
    rw [ih _ (fun p hp => h p (List.mem_cons_of_mem _ hp))]
    congr 1
    split
    · exact (put_comm a x (v i) (fun t ht e => h (i, d') (by simp) t e ht)).symm
    · rfl
theorem putL_congr (l : List (Nat × Option Tmp)) {L L' : Nat → Bool} {v v' : Nat → Value} (a : Act) (h : ∀ p ∈ l, L p.1 = L' p.1 ∧ v p.1 = v' p.1) : putL l L v a = putL l L' v' a := by
  induction l generalizing a with
  | nil => rfl
  | cons p r ih =>
    obtain ⟨i, d⟩ := p
    unfold putL
    have := h (i, d) (by simp)
    simp only at this
    rw [this.1, this.2]
    exact ih _ (fun p hp => h p (List.mem_cons_of_mem _ hp))
/-- Different places, different slots. -/
def Apart (l : List (Nat × Option Tmp)) : Prop := l.Pairwise fun p q => p.1 ≠ q.1 ∧ ∀ t, p.2 = some t → q.2 ≠ some t
theorem putL_step (l : List (Nat × Option Tmp)) (ha : Apart l) (L : Nat → Bool) (v : Nat → Value) (a : Act) (i : Nat) (d : Option Tmp) (hm : (i, d) ∈ l) (hL : L i = false) (x : Value) :
    (putL l L v a).put d x = putL l (fun j => j == i || L j) (fun j => if j = i then x else v j) a := by
  induction l generalizing a with
  | nil => simp at hm
  | cons p r ih =>
    obtain ⟨k, dk⟩ := p
    have hp := List.pairwise_cons.1 ha
    unfold putL
    rcases List.mem_cons.1 hm with h | h
    · cases h
      rw [hL]
      simp only [Bool.false_eq_true, if_false, beq_self_eq_true, Bool.true_or, if_true]
      rw [putL_put r L v a d x (fun p hp' t ht e => (hp.1 p hp').2 t e ht)]
      exact putL_congr r _ (fun p hp' => by
        have := (hp.1 p hp').1
        simp only at this
        constructor
        · have : (p.1 == i) = false := by simpa using fun e => this e.symm
          rw [this]; rfl
        · rw [if_neg (fun e => this e.symm)])
    · have hk : k ≠ i := (hp.1 _ h).1
      rw [ih hp.2 _ h]
      have e1 : (k == i || L k) = L k := by simp [hk]
      show _ = putL r _ _ (if (k == i || L k) = true then a.put dk (if k = i then x else v k) else a)
      rw [e1, if_neg hk]
theorem putL_other (l : List (Nat × Option Tmp)) (L : Nat → Bool) (v : Nat → Value) (a : Act) (t : Tmp) (h : ∀ p ∈ l, p.2 ≠ some t) : (putL l L v a).eval (.tmp t) = a.eval (.tmp t) := by
  induction l generalizing a with
  | nil => rfl
  | cons p r ih =>
    obtain ⟨i, d⟩ := p
    unfold putL
    rw [ih _ (fun p hp => h p (List.mem_cons_of_mem _ hp))]
    split
    · exact eval_put_other (h (i, d) (by simp))
    · rfl
theorem putL_done (l : List (Nat × Option Tmp)) (ha : Apart l) (L : Nat → Bool) (v : Nat → Value) (a : Act) (i : Nat) (t : Tmp) (hm : (i, some t) ∈ l) (hL : L i = true) (ht : t < a.tmps.size) : (putL l L v a).eval (.tmp t) = v i := by
  induction l generalizing a with
  | nil => simp at hm
  | cons p r ih =>
    obtain ⟨k, dk⟩ := p
    have hp := List.pairwise_cons.1 ha
    unfold putL
    rcases List.mem_cons.1 hm with h | h
    · cases h
      rw [hL, if_pos rfl, putL_other r L v _ t (fun p hp' e => (hp.1 p hp').2 t rfl e), eval_put_same ht]
    · refine ih hp.2 _ h ?_
      split
      · rw [size_put]; exact ht
      · exact ht

theorem wp_val {P : Program} {o : Oper} {b : Act} {w w1 : World} {K : Act → World → Prop} {Q : Exit → Act → World → Prop} (x : Value) (h : (execOp b.eval o).run P w = .ok (.value x) w1) (hk : K (b.put o.dst x) w1) : o.wp P b w K Q := by
  unfold Oper.wp; rw [h]; exact hk
theorem wp_skip {P : Program} {o : Oper} {b : Act} {w w1 : World} {K : Act → World → Prop} {Q : Exit → Act → World → Prop} (h : (execOp b.eval o).run P w = .ok .skip w1) (hk : K (b.put o.dst undef) w1) : o.wp P b w K Q := by
  unfold Oper.wp; rw [h]; exact hk
theorem wp_call {P : Program} {o : Oper} {b : Act} {w w1 : World} {K : Act → World → Prop} {Q : Exit → Act → World → Prop} (f : FuncId) (args : Array Value) (h : (execOp b.eval o).run P w = .ok (.enter f args) w1)
    (hc : Calls P f args w1 fun e w2 => ∃ x, e = .returned x ∧ K (b.put o.dst x) w2) : o.wp P b w K Q := by
  unfold Oper.wp; rw [h]
  exact hc.mono fun e w2 ⟨x, he, hk⟩ => by subst he; exact hk

theorem ready_mem {ops : Array Oper} {L : Array Bool} {i : Nat} (h : i ∈ Region.ready .any ops L) : i < ops.size ∧ L.getD i true = false ∧ ∃ o, ops[i]? = some o ∧ ∀ e ∈ o.after.toList, Region.binds .any e = true → L.getD e.on false = true := by
  unfold Region.ready at h
  obtain ⟨h1, h2⟩ := List.mem_filter.1 h
  have hi : i < ops.size := by simpa using h1
  rw [Bool.and_eq_true] at h2
  obtain ⟨h3, h4⟩ := h2
  refine ⟨hi, by simpa using h3, ?_⟩
  rw [Array.getElem?_eq_getElem hi] at h4 ⊢
  refine ⟨_, rfl, fun e he hb => ?_⟩
  simp only [Option.map_some, Option.getD_some] at h4
  rw [← Array.all_toList, List.all_eq_true] at h4
  have := h4 e he
  simpa [hb] using this
theorem ready_of {ops : Array Oper} {L : Array Bool} {i : Nat} {o : Oper} (hi : ops[i]? = some o) (h1 : L.getD i true = false) (h2 : ∀ e ∈ o.after.toList, Region.binds .any e = true → L.getD e.on false = true) : i ∈ Region.ready .any ops L := by
  unfold Region.ready
  have hlt := (Array.getElem?_eq_some_iff.1 hi).1
  refine List.mem_filter.2 ⟨by simpa using hlt, ?_⟩
  rw [hi, h1]
  simp only [Option.map_some, Option.getD_some, Bool.not_false, Bool.true_and]
  rw [← Array.all_toList, List.all_eq_true]
  intro e he
  cases hb : Region.binds .any e
  · rfl
  · simpa using h2 e he hb

/-- Closed facts of a region: each waits for those ahead alone; no guards; slots apart and in the frame. -/
def regionOk (ops : Array Oper) (n : Nat) : Bool :=
  ((List.range ops.size).all fun i => match ops[i]? with
    | some o => o.guard.isNone && o.after.toList.all (fun e => decide (e.on < i)) && (match o.dst with | some t => decide (t < n) | none => true)
    | none => true) &&
  ((List.range ops.size).all fun i => (List.range i).all fun j => match (ops[i]?).bind (·.dst), (ops[j]?).bind (·.dst) with | some t, some t' => t != t' | _, _ => true)
def dsts (ops : Array Oper) : List (Nat × Option Tmp) := (List.range ops.size).map fun i => (i, (ops[i]?).bind (·.dst))
theorem dsts_mem {ops : Array Oper} {i : Nat} {o : Oper} (h : ops[i]? = some o) : (i, o.dst) ∈ dsts ops := by
  unfold dsts
  exact List.mem_map.2 ⟨i, by simpa using (Array.getElem?_eq_some_iff.1 h).1, by rw [h]; rfl⟩
theorem dsts_apart {ops : Array Oper} {n : Nat} (h : regionOk ops n = true) : Apart (dsts ops) := by
  unfold regionOk at h
  rw [Bool.and_eq_true] at h
  have h2 := h.2
  rw [List.all_eq_true] at h2
  unfold Apart dsts
  rw [List.pairwise_map, List.pairwise_iff_getElem]
  intro i j hi hj hij
  simp only [List.length_range] at hi hj
  simp only [List.getElem_range]
  refine ⟨by omega, fun t ht ht' => ?_⟩
  have := h2 j (by simpa using hj)
  rw [List.all_eq_true] at this
  have := this i (by simpa using hij)
  rw [ht, ht'] at this
  simp at this
theorem regionOk_op {ops : Array Oper} {n : Nat} (h : regionOk ops n = true) {i : Nat} {o : Oper} (hi : ops[i]? = some o) : o.guard = none ∧ (∀ e ∈ o.after.toList, e.on < i) ∧ ∀ t, o.dst = some t → t < n := by
  unfold regionOk at h
  rw [Bool.and_eq_true] at h
  have h1 := h.1
  rw [List.all_eq_true] at h1
  have := h1 i (by simpa using (Array.getElem?_eq_some_iff.1 hi).1)
  rw [hi] at this
  simp only [Bool.and_eq_true, Option.isNone_iff_eq_none, List.all_eq_true, decide_eq_true_eq] at this
  refine ⟨this.1.1, this.1.2, fun t ht => ?_⟩
  have h3 := this.2
  rw [ht] at h3
  simpa using h3

theorem wpAny_inv {P : Program} {ops : Array Oper} {Q : Exit → Act → World → Prop} {n : Nat} (hok : regionOk ops n = true) (Inv : (Nat → Bool) → Act → World → Prop)
    (hs : ∀ (L : Nat → Bool) a w i o, ops[i]? = some o → L i = false → (∀ e ∈ o.after.toList, Region.binds .any e = true → L e.on = true) → Inv L a w → o.wp P a w (Inv fun j => j == i || L j) Q)
    (hf : ∀ (L : Nat → Bool) a w, Inv L a w → (∀ i, i < ops.size → L i = true) → Q .normal a w) :
    ∀ fuel (L : Array Bool) a w, L.size = ops.size → ((List.range ops.size).filter fun j => !L.getD j false).length ≤ fuel → Inv (fun j => L.getD j false) a w → wpAny P .any ops Q fuel L a w := by
  have all_of : ∀ L : Array Bool, L.size = ops.size → Region.ready .any ops L = [] → ∀ i, i < ops.size → L.getD i false = true := by
    intro L hL hr i
    induction i using Nat.strongRecOn with
    | _ i ih =>
      intro hi
      have hLi : i < L.size := by omega
      cases hb : L.getD i false
      · exfalso
        have hoi : ops[i]? = some ops[i] := Array.getElem?_eq_getElem hi
        have : i ∈ Region.ready .any ops L := ready_of hoi (by
          have : L.getD i true = L.getD i false := by simp [Array.getD, hLi]
          rw [this]; exact hb) (fun e he hb => ih _ ((regionOk_op hok hoi).2.1 e he) (by have := (regionOk_op hok hoi).2.1 e he; omega))
        rw [hr] at this
        simp at this
      · rfl
  intro fuel
  induction fuel with
  | zero =>
    intro L a w hL hc hI
    have hall : ∀ i, i < ops.size → L.getD i false = true := by
      intro i hi
      cases hb : L.getD i false
      · exfalso
        have : i ∈ (List.range ops.size).filter fun j => !L.getD j false := List.mem_filter.2 ⟨by simpa using hi, by rw [hb]; rfl⟩
        have := List.length_pos_of_mem this
        omega
      · rfl
    refine ⟨?_, hf _ a w hI hall⟩
    cases hr : Region.ready .any ops L with
    | nil => rfl
    | cons i r =>
      have hm : i ∈ Region.ready .any ops L := by rw [hr]; simp
      obtain ⟨h1, h2, _⟩ := ready_mem hm
      have h3 := hall i h1
      have : L.getD i true = L.getD i false := by simp [Array.getD, show i < L.size by omega]
      rw [this, h3] at h2
      cases h2
  | succ fuel ih =>
    intro L a w hL hc hI
    refine ⟨fun hr => hf _ a w hI (all_of L hL hr), fun i hi => ?_⟩
    obtain ⟨h1, h2, o, ho, hd⟩ := ready_mem hi
    have hLi : L.getD i false = false := by
      have : L.getD i true = L.getD i false := by simp [Array.getD, show i < L.size by omega]
      rw [← this]; exact h2
    unfold wpOp
    rw [ho]
    have hg := (regionOk_op hok ho).1
    have hw : Region.wanted o (yielded ops a.tmps) = true := by unfold Region.wanted; rw [hg]
    simp only [hw, if_true]
    left
    refine Oper.wp_mono (fun a' w' hI' => ?_) (hs _ a w i o ho hLi hd hI)
    have e : (fun j => j == i || L.getD j false) = fun j => (L.setIfInBounds i true).getD j false := by
      funext j
      by_cases e : j = i
      · subst e; simp [Array.getD, show j < L.size by omega]
      · have h1 : (j == i) = false := by simpa using e
        rw [h1, Bool.false_or]
        rw [Array.getD_eq_getD_getElem?, Array.getD_eq_getD_getElem?, Array.getElem?_setIfInBounds, if_neg (fun h => e h.symm)]
    rw [e] at hI'
    refine ih _ a' w' (by simpa using hL) ?_ hI'
    have hlt := Pl.filter_lt (List.range ops.size) (fun j => !(L.setIfInBounds i true).getD j false) (fun j => !L.getD j false) (fun x _ hx => by
      have := congrFun e x
      rw [← this] at hx
      simp at hx ⊢
      exact hx.2) i (by simpa using h1) (by have := congrFun e i; rw [← this]; simp) (by rw [hLi]; rfl)
    omega
/-- A region, by what holds of what each operation yields (R, of all values) and what lasts throughout (W): each operation is looked at once. -/
theorem wp_region_v {P : Program} {id : Nat} {ops : Array Oper} {Q : Exit → Act → World → Prop} {a : Act} {w : World} (ds : List (Nat × Option Tmp)) (hds : dsts ops = ds) (hm : P.follows .mixedOrders = true) (hok : regionOk ops a.tmps.size = true)
    (R : (Nat → Value) → Nat → World → Prop) (W : (Nat → Bool) → World → Prop) (h0 : W (fun _ => false) w.drew)
    (hs : ∀ (L : Nat → Bool) (v : Nat → Value) (b : Act) (w' : World) (i : Nat) (o : Oper), ops[i]? = some o → L i = false → (∀ e ∈ o.after.toList, Region.binds .any e = true → L e.on = true) → (∀ j o', ops[j]? = some o' → L j = true → ∀ e ∈ o'.after.toList, Region.binds .any e = true → L e.on = true) → W L w' → (∀ j, L j = true → R v j w') →
      (∀ j o' t, ops[j]? = some o' → L j = true → o'.dst = some t → b.tmps[t]?.getD undef = v j) → (∀ t, ((dsts ops).all fun p => p.2 != some t) = true → b.tmps[t]?.getD undef = a.tmps[t]?.getD undef) →
      o.wp P b w' (fun b' w'' => ∃ x, b' = b.put o.dst x ∧ W (fun j => j == i || L j) w'' ∧ ∀ j, (j = i ∨ L j = true) → R (fun k => if k = i then x else v k) j w'') Q)
    (hf : ∀ (L : Nat → Bool) (v : Nat → Value) w', (∀ j, j < ops.size → L j = true) → W L w' → (∀ j, j < ops.size → R v j w') → Q .normal (putL ds (fun _ => true) v a) w') : (Code.region id ops true).wp P Q a w := by
  subst hds
  have hA := dsts_apart hok
  refine wp_region_any hm ?_
  refine wpAny_inv hok (fun L b w' => (∀ j o', ops[j]? = some o' → L j = true → ∀ e ∈ o'.after.toList, Region.binds .any e = true → L e.on = true) ∧ ∃ v, b = putL (dsts ops) L v a ∧ W L w' ∧ ∀ j, L j = true → R v j w') ?_ ?_ _ _ _ _ (by simp) ?_ ?_
  · rintro L b w' i o ho hL hd ⟨hC, v, rfl, hW, hR⟩
    refine Oper.wp_mono ?_ (hs L v _ w' i o ho hL hd hC hW hR (fun j o' t hj hLj ht => ?_) (fun t ht => ?_))
    · rintro b' w'' ⟨x, rfl, hW', hR'⟩
      refine ⟨fun j o' hj hLj e he hb => ?_, fun j => if j = i then x else v j, ?_, hW', fun j hj => ?_⟩
      · have : L e.on = true := by
          by_cases e1 : j = i
          · subst e1; rw [ho] at hj; cases hj; exact hd e he hb
          · have h1 : (j == i) = false := by simpa using e1
            exact hC j o' hj (by simpa [h1] using hLj) e he hb
        simp [this]
      · exact putL_step _ hA L v a i o.dst (dsts_mem ho) hL x
      · refine hR' j ?_
        by_cases e : j = i
        · exact .inl e
        · have h1 : (j == i) = false := by simpa using e
          exact .inr (by simpa [h1] using hj)
    · refine (eval_get _ t).symm.trans (putL_done _ hA L v a j t ?_ hLj ((regionOk_op hok hj).2.2 t ht))
      have := dsts_mem hj
      rwa [ht] at this
    · refine (eval_get _ t).symm.trans ((putL_other _ L v a t fun p hp => ?_).trans (eval_get _ t))
      rw [List.all_eq_true] at ht
      simpa using ht p hp
  · rintro L b w' ⟨_, v, rfl, hW, hR⟩ hall
    have : putL (dsts ops) L v a = putL (dsts ops) (fun _ => true) v a := putL_congr _ _ fun p hp => by
      unfold dsts at hp
      obtain ⟨i, hi, rfl⟩ := List.mem_map.1 hp
      exact ⟨hall i (by simpa using hi), rfl⟩
    rw [this]
    exact hf L v w' hall hW fun j hj => hR j (hall j hj)
  · have := List.length_filter_le (fun j => !(Array.replicate ops.size false).getD j false) (List.range ops.size)
    simpa using this
  · have e : (fun j => (Array.replicate ops.size false).getD j false) = fun _ => false := by
      funext j
      simp [Array.getD]
    rw [e]
    refine ⟨(fun j _ _ h => by cases h), fun _ => undef, ?_, h0, fun j hj => by cases hj⟩
    have : ∀ l b, putL l (fun _ => false) (fun _ => undef) b = b := by
      intro l
      induction l with
      | nil => intro b; rfl
      | cons p r ih => intro b; obtain ⟨i, d⟩ := p; unfold putL; simpa using ih b
    rw [this]
/-- .. where what holds of a value is said of it alone. -/
theorem wp_region_vals {P : Program} {id : Nat} {ops : Array Oper} {Q : Exit → Act → World → Prop} {a : Act} {w : World} (ds : List (Nat × Option Tmp)) (hds : dsts ops = ds) (hm : P.follows .mixedOrders = true) (hok : regionOk ops a.tmps.size = true)
    (R : Nat → Value → World → Prop) (W : World → Prop) (h0 : W w.drew)
    (hs : ∀ (L : Nat → Bool) (v : Nat → Value) (b : Act) (w' : World) (i : Nat) (o : Oper), ops[i]? = some o → L i = false → (∀ e ∈ o.after.toList, Region.binds .any e = true → L e.on = true) → W w' → (∀ j, L j = true → R j (v j) w') →
      (∀ j o' t, ops[j]? = some o' → L j = true → o'.dst = some t → b.tmps[t]?.getD undef = v j) → (∀ t, ((dsts ops).all fun p => p.2 != some t) = true → b.tmps[t]?.getD undef = a.tmps[t]?.getD undef) →
      o.wp P b w' (fun b' w'' => ∃ x, b' = b.put o.dst x ∧ W w'' ∧ R i x w'' ∧ ∀ j, L j = true → R j (v j) w'') Q)
    (hf : ∀ (v : Nat → Value) w', W w' → (∀ j, j < ops.size → R j (v j) w') → Q .normal (putL ds (fun _ => true) v a) w') : (Code.region id ops true).wp P Q a w := by
  refine wp_region_v ds hds hm hok (fun v j w' => R j (v j) w') (fun _ => W) h0 (fun L v b w' i o ho hL hd _ hW hR hE hN => ?_) (fun _ v w' _ => hf v w')
  refine Oper.wp_mono ?_ (hs L v b w' i o ho hL hd hW hR hE hN)
  rintro b' w'' ⟨x, rfl, hW', hRi, hR'⟩
  refine ⟨x, rfl, hW', fun j hj => ?_⟩
  by_cases e : j = i
  · subst e; simpa using hRi
  · simp only [if_neg e]
    rcases hj with h | h
    · exact absurd h e
    · exact hR' j h
end Go.Proofs.YtdejljgoebcmpaaDoor
/- A map[string]bool of the call's own; limit.Measure. -/
namespace Go.Proofs.YtdejljgoebcmpaaDoor
open Go.RowKit Go.Maps

/-- Block b is a map, of at most n entries, of just these texts to true. -/
def SeenAt (w : World) (b n : Nat) (seen : List ByteArray) : Prop :=
  ∃ D : DataW Unit, w.ownsMap Tryd.prog 9 (plainElem Tryd.prog 4) b n D ∧ ∀ s : ByteArray, ∀ q : Bool, (q = true ↔ s ∈ seen) → D.atKey (.string s.data.toList) (.lit (.bool false)) = .lit (.bool q)
theorem seenKey {s : ByteArray} (h : s.size ≤ 1048576) : keyOf Tryd.prog 9 (.string s) = some (.string s.data.toList) := WideMaps.keyOf_string_mk Tryd.underlying9 (by unfold maxLen; omega)
theorem SeenAt.made (w : World) : SeenAt (w.alloc (.map #[] 0)) w.heap.size 0 [] := ⟨_, World.ownsMap_made w _ _ _, fun s q h => by
  have : q = false := by cases q; rfl; exact absurd (h.1 rfl) (by simp)
  simp [WideAt.atKey_none, this]⟩
theorem SeenAt.lt {w : World} {b n : Nat} {seen : List ByteArray} (h : SeenAt w b n seen) : b < w.heap.size := by obtain ⟨D, h, _⟩ := h; exact h.lt
theorem SeenAt.notCells {w : World} {b n : Nat} {seen : List ByteArray} (h : SeenAt w b n seen) {k : Nat} {cs : Array Value} {t : TypeId} {fr : Nat × Nat} (hk : w.heap[k]? = some (.cells cs t fr)) : b ≠ k := by
  obtain ⟨D, ⟨es, clock, h1, _⟩, _⟩ := h
  rintro rfl
  rw [h1] at hk; cases hk
theorem SeenAt.block {w w' : World} {b n : Nat} {seen : List ByteArray} (h : SeenAt w b n seen) (hb : w'.heap[b]? = w.heap[b]?) : SeenAt w' b n seen := by
  obtain ⟨D, ⟨es, clock, h1, h2⟩, h3⟩ := h
  exact ⟨D, ⟨es, clock, hb.trans h1, h2⟩, h3⟩
set_option maxRecDepth 100000 in
theorem SeenAt.look {w : World} {b n : Nat} {seen : List ByteArray} (h : SeenAt w b n seen) {s : ByteArray} (hs : s.size ≤ 1048576) {q : Bool} (hq : q = true ↔ s ∈ seen) :
    (Instr.lookup 100 (.map (some b)) (.string s) false).run Tryd.prog w = .ok (.bool q) w := by
  obtain ⟨D, h1, h2⟩ := h
  obtain ⟨v, ps, hr, hv⟩ := h1.lookup (string_keyed Tryd.underlying9) Tryd.underlying100 (metZero w) (plainElem_bool Tryd.underlying4 false) (seenKey hs)
  rw [h2 s q hq] at hv
  rw [hr]
  congr 1
  unfold plainElem at hv
  rw [Tryd.underlying4] at hv
  cases v <;> simp at hv
  rw [hv.1]
theorem seen_put {P : Program} {ops : Array Oper} {rest : List Oper} {o : Oper} {a : Act} {Q : Exit → Act → World → Prop} {w : World} (hP : P = Tryd.prog)
    (hg : o.guard = none) (m x v : Operand) (hop : o.op = Op.mapUpdate 100 m x v) {b n : Nat} {seen : List ByteArray} (h : SeenAt w b n seen) (hn : n < 2000000000000000) {s : ByteArray} (hs : s.size ≤ 1048576)
    (hm : a.eval m = .map (some b)) (hx : a.eval x = .string s) (hv : a.eval v = .bool true)
    (hK : ∀ w', SeenAt w' b (n + 1) (s :: seen) → w.grownBy w' (some b) → wpList P ops Q rest (a.put o.dst undef) w') : wpList P ops Q (o :: rest) a w := by
  subst hP
  obtain ⟨D, h1, h2⟩ := h
  refine wpList_mapUpdate_own w hg m x v 100 hop 9 4 (string_keyed Tryd.underlying9) Tryd.underlying100 (plainElem Tryd.prog 4) b n D hm h1 (by unfold maxLen; omega) (.string s) (.bool true) (.string s.data.toList) hx hv (seenKey hs) (.lit (.bool true)) [] (plainElem_bool Tryd.underlying4 true) ?_
  intro w' h3 h4
  refine hK w' ⟨_, h3, fun t q hq => ?_⟩ h4
  by_cases e : t = s
  · subst e
    have : q = true := hq.2 (by simp)
    rw [atKey_put_same h1.isMap (by simp [WideAt.IsKeyLit]), this]
  · rw [atKey_put_other (by intro h; injection h with h; exact e (ByteArray.ext (Array.toList_inj.1 h))), h2 t q]
    rw [hq]; simp [e]

/-- Within limit.Measure: the scene's box, the result's cell, and m's. -/
structure MsS (w : World) (v : Value) (root : Int) (w' : World) : Prop where
  sc : ScS w w.heap.size v root w'
  rr : w'.heap[w.heap.size + 1]? = some (.cells #[.int .i64 0, .int .i64 0, .int .i64 0, .int .i64 0, .int .i64 0] 26 (0, 0))
theorem MsS.step {w w1 w2 : World} {v : Value} {root : Int} (h : MsS w v root w1) (hb : Below w1.heap.size w1 w2) : MsS w v root w2 := ⟨h.sc.step hb, (hb.block _ (Array.getElem?_eq_some_iff.1 h.rr).1).trans h.rr⟩
theorem MsS.drew {w w1 : World} {v : Value} {root : Int} (h : MsS w v root w1) : MsS w v root w1.drew := ⟨h.sc.drew, h.rr⟩
theorem MsS.al {w w1 : World} {v : Value} {root : Int} (h : MsS w v root w1) (o : Obj) : MsS w v root (w1.alloc o) := h.step ((Below.refl _ _).alloc (Nat.le_refl _) _)
theorem MsS.bel {w w1 : World} {v : Value} {root : Int} (h : MsS w v root w1) : Below w.heap.size w w1 := h.sc.bel
theorem set5 {w : World} {k : Nat} {a b c d e : Value} {t : TypeId} (h : w.heap[k]? = some (.cells #[a, b, c, d, e] t (0, 0))) (x y u v z : Value) :
    (((((w.setCell ⟨k, 0, none⟩ x).setCell ⟨k, 1, none⟩ y).setCell ⟨k, 2, none⟩ u).setCell ⟨k, 3, none⟩ v).setCell ⟨k, 4, none⟩ z).heap[k]? = some (.cells #[x, y, u, v, z] t (0, 0)) := by
  unfold World.setCell; simp [Array.getElem?_modify, h]
theorem MsS.set {w w1 : World} {v : Value} {root : Int} (h : MsS w v root w1) {b : Nat} (hb : w.heap.size + 1 < b) (j : Nat) (u : Value) : MsS w v root (w1.setCell ⟨b, j, none⟩ u) :=
  ⟨h.sc.set (by omega) (by omega) j u, (heap_setCell_other w1 _ _ u (by show w.heap.size + 1 ≠ b; omega)).trans h.rr⟩
theorem MsS.set5 {w w1 : World} {v : Value} {root : Int} (h : MsS w v root w1) {k : Nat} (hb : w.heap.size + 1 < k) (x y u a z : Value) :
    MsS w v root (((((w1.setCell ⟨k, 0, none⟩ x).setCell ⟨k, 1, none⟩ y).setCell ⟨k, 2, none⟩ u).setCell ⟨k, 3, none⟩ a).setCell ⟨k, 4, none⟩ z) := ((((h.set hb 0 x).set hb 1 y).set hb 2 u).set hb 3 a).set hb 4 z
def limC (l : Pl.Lim) : Array Value := #[.int .i64 l.b, .int .i64 l.n, .int .i64 l.e, .int .i64 l.d, .int .i64 l.t]
/-- How much a scene has. -/
noncomputable def Pl.measure (l : List Pl.Node) (root : Int) : Pl.Lim := ⟨0, l.length, Pl.edges l, Pl.depthOf l root, Pl.textSum (Pl.textsOf l) []⟩

namespace Pl
theorem textSum_le (B : Nat) : ∀ (L : List ByteArray) (met : List ByteArray), (∀ t ∈ L, t.size ≤ B) → textSum L met ≤ L.length * B
  | [], _, _ => by simp [textSum]
  | t :: L, met, h => by
    unfold textSum
    have h1 := textSum_le B L met (fun t ht => h t (List.mem_cons_of_mem _ ht))
    have h2 := textSum_le B L (t :: met) (fun t ht => h t (List.mem_cons_of_mem _ ht))
    have h3 := h t (by simp)
    rw [List.length_cons, Nat.succ_mul]
    split <;> omega
theorem textsOf_len (B : Nat) (l : List Node) (h : ∀ n ∈ l, n.texts.length ≤ B) : (textsOf l).length ≤ l.length * B := by
  induction l with
  | nil => simp [textsOf]
  | cons n l ih =>
    have h1 := ih (fun n hn => h n (List.mem_cons_of_mem _ hn))
    have h2 := h n (by simp)
    have : textsOf (n :: l) = n.texts ++ textsOf l := rfl
    rw [this, List.length_append, List.length_cons, Nat.succ_mul]
    omega
theorem textsOf_mem {l : List Node} {t : ByteArray} (h : t ∈ textsOf l) : ∃ n ∈ l, t ∈ n.texts := by
  unfold textsOf at h; exact List.mem_flatMap.1 h
theorem textsOf_sm {l : List Node} (h : Sm l) : (textsOf l).length ≤ 1099511627776 := by
  have h1 := textsOf_len 1048576 l h.texts
  have h2 : l.length * 1048576 ≤ 1048576 * 1048576 := Nat.mul_le_mul_right _ h.len
  omega
theorem textSum_sm {l : List Node} (h : Sm l) : textSum (textsOf l) [] ≤ 1152921504606846976 := by
  have h1 := textSum_le 1048576 (textsOf l) [] (fun t ht => by obtain ⟨n, hn, h2⟩ := textsOf_mem ht; exact h.size n hn t h2)
  have h2 : (textsOf l).length * 1048576 ≤ 1099511627776 * 1048576 := Nat.mul_le_mul_right _ (textsOf_sm h)
  omega
end Pl
/-- What holds of the values of limit.Measure's first statement. -/
structure MsR (w : World) (V : Value) (n : Nat) (root : Int) (e d : Nat) (v : Nat → Value) (j : Nat) (w' : World) : Prop where
  r0 : j = 0 → v 0 = .pointer (some ⟨w.heap.size, 0, none⟩)
  r1 : j = 1 → v 1 = V
  r2 : j = 2 → v 2 = .int .i64 n
  r3 : j = 3 → v 3 = .agg #[V, .int .i64 root]
  r4 : j = 4 → v 4 = .int .i64 e
  r5 : j = 5 → v 5 = .agg #[V, .int .i64 root]
  r6 : j = 6 → v 6 = .int .i64 d
  r7 : j = 7 → v 7 = .agg (limC ⟨0, n, e, d, 0⟩)
  r8 : j = 8 → ∃ g, v 8 = .pointer (some ⟨g, 0, none⟩) ∧ w.heap.size + 1 < g ∧ ∃ L, w'.heap[g]? = some (.cells (limC L) 26 (0, 0))
  r9 : j = 9 → ∃ g, v 8 = .pointer (some ⟨g, 0, none⟩) ∧ w'.heap[g]? = some (.cells (limC ⟨0, n, e, d, 0⟩) 26 (0, 0))
namespace MsR
variable {w : World} {V : Value} {n : Nat} {root : Int} {e d : Nat} {v : Nat → Value} {j : Nat} {w' : World}
theorem below (h : MsR w V n root e d v j w') {w2 : World} (hb : Below w'.heap.size w' w2) : MsR w V n root e d v j w2 :=
  ⟨h.r0, h.r1, h.r2, h.r3, h.r4, h.r5, h.r6, h.r7, fun hj => by
    obtain ⟨g, h1, h2, L, h3⟩ := h.r8 hj
    exact ⟨g, h1, h2, L, (hb.block _ (Array.getElem?_eq_some_iff.1 h3).1).trans h3⟩, fun hj => by
    obtain ⟨g, h1, h3⟩ := h.r9 hj
    exact ⟨g, h1, (hb.block _ (Array.getElem?_eq_some_iff.1 h3).1).trans h3⟩⟩
theorem upd (h : MsR w V n root e d v j w') {i : Nat} (hj : j ≠ i) (x : Value) (h9 : j = 9 → i ≠ 8) : MsR w V n root e d (fun k => if k = i then x else v k) j w' := by
  constructor
  all_goals
    intro e1
    subst e1
  case r8 => simpa [if_neg hj] using h.r8 rfl
  case r9 => have := h9 rfl; simpa [if_neg (Ne.symm this)] using h.r9 rfl
  all_goals rw [if_neg hj]
  · exact h.r0 rfl
  · exact h.r1 rfl
  · exact h.r2 rfl
  · exact h.r3 rfl
  · exact h.r4 rfl
  · exact h.r5 rfl
  · exact h.r6 rfl
  · exact h.r7 rfl
end MsR

set_option maxHeartbeats 4000000 in
set_option maxRecDepth 100000 in
theorem lim_measure (v : Value) (root : Int) (l : List Pl.Node) (w : World) (hv : RNodes w v l) (hs : Pl.Sm l) :
    Calls Tryd.prog 28 #[.agg #[v, .int .i64 root]] w fun en w' => en = .returned (limV (Pl.measure l root)) ∧ Below w.heap.size w w' := by
  have HV := Lib.hid hv
  have HSm := Lib.hid hs
  have hl := hs.len
  have hM0 : Hid (MsS w v root ((w.alloc (.cells #[v, .int .i64 root] 24)).alloc (.cells #[.int .i64 0, .int .i64 0, .int .i64 0, .int .i64 0, .int .i64 0] 26))) := by
    refine ⟨(ScS.box w v root).step ((Below.refl _ _).alloc (Nat.le_refl _) _), ?_⟩
    have := heap_alloc_new (w.alloc (.cells #[v, .int .i64 root] 24)) (.cells #[.int .i64 0, .int .i64 0, .int .i64 0, .int .i64 0, .int .i64 0] 26)
    rwa [show (w.alloc (.cells #[v, .int .i64 root] 24)).heap.size = w.heap.size + 1 from by simp] at this
  have H1 : Hid (∀ w1, Below w.heap.size w w1 → Calls Tryd.prog 54 #[.agg #[v, .int .i64 root]] w1 fun en w' => en = .returned (.int .i64 (Pl.edges l)) ∧ Below w1.heap.size w1 w') := fun w1 hb => gr_edges v root l w1 (hv.below hb) (by omega) (fun x hx => by have := hs.kids x hx; omega)
  have H2 : Hid (∀ w1, Below w.heap.size w w1 → Calls Tryd.prog 55 #[.agg #[v, .int .i64 root]] w1 fun en w' => en = .returned (.int .i64 (Pl.depthOf l root)) ∧ Below w1.heap.size w1 w') := fun w1 hb => gr_depth v root l w1 (hv.below hb) hl hs.kids
  obtain ⟨A, c, rfl⟩ : ∃ A c, v = .slice A l.length c := by obtain ⟨A, c, rfl, _⟩ := hv; exact ⟨A, c, rfl⟩
  clear hv hs
  have hmm := @run_makeMap Tryd.prog
  go_enter Tryd.func28, Tryd.ntmps28
  go_upto_region 1 with (fail)
  go_cut [3] (fun s3 wx => ∃ g, s3 = .pointer (some ⟨g, 0, none⟩) ∧ Hid (MsS w (.slice A l.length c) root wx) ∧ Hid (wx.heap[g]? = some (.cells (limC ⟨0, l.length, Pl.edges l, Pl.depthOf l root, 0⟩) 26 (0, 0))) ∧ Hid (w.heap.size + 1 < g))
  case first =>
    generalize (w.alloc (.cells #[.slice A l.length c, .int .i64 root] 24)).alloc (.cells #[.int .i64 0, .int .i64 0, .int .i64 0, .int .i64 0, .int .i64 0] 26) = w1 at *
    have hM1 : MsS w (.slice A l.length c) root w1.drew := hM0.out.drew
    refine wp_region_v [(0, some 9), (1, some 10), (2, some 11), (3, some 12), (4, some 13), (5, some 14), (6, some 15), (7, some 16), (8, some 3), (9, none)] rfl (by kernel_rfl) rfl (MsR w (.slice A l.length c) l.length root (Pl.edges l) (Pl.depthOf l root)) (fun _ => MsS w (.slice A l.length c) root) hM1 ?_ ?_
    · intro L v b w' i o ho hL hd hC hW hR hE hN
      have hi : i < 10 := (Array.getElem?_eq_some_iff.1 ho).1
      have d0 := hW.sc.c0
      have d1 := hW.sc.c1
      clear hM1 hM0 HV
      obtain rfl | rfl | rfl | rfl | rfl | rfl | rfl | rfl | rfl | rfl : i = 0 ∨ i = 1 ∨ i = 2 ∨ i = 3 ∨ i = 4 ∨ i = 5 ∨ i = 6 ∨ i = 7 ∨ i = 8 ∨ i = 9 := by omega
      · cases ho
        have e10 : b.tmps[1]?.getD undef = .pointer (some ⟨w.heap.size, 0, none⟩) := hN 1 (by decide)
        refine wp_val (.pointer (some ⟨w.heap.size, 0, none⟩)) (w1 := w') (by go_simp) ⟨_, rfl, hW, fun j hj => ?_⟩
        rcases hj with rfl | hj
        · exact ⟨fun e => by first | rfl | omega, fun e => by first | rfl | omega, fun e => by first | rfl | omega, fun e => by first | rfl | omega, fun e => by first | rfl | omega, fun e => by first | rfl | omega, fun e => by first | rfl | omega, fun e => by first | rfl | omega, fun e => by first | rfl | omega, fun e => by first | rfl | omega⟩
        · exact (hR j hj).upd (fun e => by rw [e, hL] at hj; cases hj) _ (fun _ => by omega)
      · cases ho
        have l0 : L 0 = true := hd ⟨0, .data⟩ (by simp) rfl
        have e0 : b.tmps[9]?.getD undef = v 0 := hE 0 _ 9 rfl l0 rfl
        rw [(hR 0 l0).r0 rfl] at e0
        refine wp_val (.slice A l.length c) (w1 := w') (by go_simp) ⟨_, rfl, hW, fun j hj => ?_⟩
        rcases hj with rfl | hj
        · exact ⟨fun e => by first | rfl | omega, fun e => by first | rfl | omega, fun e => by first | rfl | omega, fun e => by first | rfl | omega, fun e => by first | rfl | omega, fun e => by first | rfl | omega, fun e => by first | rfl | omega, fun e => by first | rfl | omega, fun e => by first | rfl | omega, fun e => by first | rfl | omega⟩
        · exact (hR j hj).upd (fun e => by rw [e, hL] at hj; cases hj) _ (fun _ => by omega)
      · cases ho
        have l1 : L 1 = true := hd ⟨1, .data⟩ (by simp) rfl
        have e1 : b.tmps[10]?.getD undef = v 1 := hE 1 _ 10 rfl l1 rfl
        rw [(hR 1 l1).r1 rfl] at e1
        refine wp_val (.int .i64 l.length) (w1 := w') (by go_simp) ⟨_, rfl, hW, fun j hj => ?_⟩
        rcases hj with rfl | hj
        · exact ⟨fun e => by first | rfl | omega, fun e => by first | rfl | omega, fun e => by first | rfl | omega, fun e => by first | rfl | omega, fun e => by first | rfl | omega, fun e => by first | rfl | omega, fun e => by first | rfl | omega, fun e => by first | rfl | omega, fun e => by first | rfl | omega, fun e => by first | rfl | omega⟩
        · exact (hR j hj).upd (fun e => by rw [e, hL] at hj; cases hj) _ (fun _ => by omega)
      · cases ho
        have e10 : b.tmps[1]?.getD undef = .pointer (some ⟨w.heap.size, 0, none⟩) := hN 1 (by decide)
        refine wp_val (.agg #[.slice A l.length c, .int .i64 root]) (w1 := w') (by go_simp) ⟨_, rfl, hW, fun j hj => ?_⟩
        rcases hj with rfl | hj
        · exact ⟨fun e => by first | rfl | omega, fun e => by first | rfl | omega, fun e => by first | rfl | omega, fun e => by first | rfl | omega, fun e => by first | rfl | omega, fun e => by first | rfl | omega, fun e => by first | rfl | omega, fun e => by first | rfl | omega, fun e => by first | rfl | omega, fun e => by first | rfl | omega⟩
        · exact (hR j hj).upd (fun e => by rw [e, hL] at hj; cases hj) _ (fun _ => by omega)
      · cases ho
        have l3 : L 3 = true := hd ⟨3, .data⟩ (by simp) rfl
        have e3 : b.tmps[12]?.getD undef = v 3 := hE 3 _ 12 rfl l3 rfl
        rw [(hR 3 l3).r3 rfl] at e3
        refine wp_call _ #[.agg #[.slice A l.length c, .int .i64 root]] (w1 := w') (by go_simp) ((H1.out _ hW.bel).mono ?_)
        rintro en w2 ⟨rfl, hb⟩
        refine ⟨_, rfl, _, rfl, hW.step hb, fun j hj => ?_⟩
        rcases hj with rfl | hj
        · exact ⟨fun e => by first | rfl | omega, fun e => by first | rfl | omega, fun e => by first | rfl | omega, fun e => by first | rfl | omega, fun e => by first | rfl | omega, fun e => by first | rfl | omega, fun e => by first | rfl | omega, fun e => by first | rfl | omega, fun e => by first | rfl | omega, fun e => by first | rfl | omega⟩
        · exact ((hR j hj).below hb).upd (fun e => by rw [e, hL] at hj; cases hj) _ (fun _ => by omega)
      · cases ho
        have e10 : b.tmps[1]?.getD undef = .pointer (some ⟨w.heap.size, 0, none⟩) := hN 1 (by decide)
        refine wp_val (.agg #[.slice A l.length c, .int .i64 root]) (w1 := w') (by go_simp) ⟨_, rfl, hW, fun j hj => ?_⟩
        rcases hj with rfl | hj
        · exact ⟨fun e => by first | rfl | omega, fun e => by first | rfl | omega, fun e => by first | rfl | omega, fun e => by first | rfl | omega, fun e => by first | rfl | omega, fun e => by first | rfl | omega, fun e => by first | rfl | omega, fun e => by first | rfl | omega, fun e => by first | rfl | omega, fun e => by first | rfl | omega⟩
        · exact (hR j hj).upd (fun e => by rw [e, hL] at hj; cases hj) _ (fun _ => by omega)
      · cases ho
        have l5 : L 5 = true := hd ⟨5, .data⟩ (by simp) rfl
        have e5 : b.tmps[14]?.getD undef = v 5 := hE 5 _ 14 rfl l5 rfl
        rw [(hR 5 l5).r5 rfl] at e5
        refine wp_call _ #[.agg #[.slice A l.length c, .int .i64 root]] (w1 := w') (by go_simp) ((H2.out _ hW.bel).mono ?_)
        rintro en w2 ⟨rfl, hb⟩
        refine ⟨_, rfl, _, rfl, hW.step hb, fun j hj => ?_⟩
        rcases hj with rfl | hj
        · exact ⟨fun e => by first | rfl | omega, fun e => by first | rfl | omega, fun e => by first | rfl | omega, fun e => by first | rfl | omega, fun e => by first | rfl | omega, fun e => by first | rfl | omega, fun e => by first | rfl | omega, fun e => by first | rfl | omega, fun e => by first | rfl | omega, fun e => by first | rfl | omega⟩
        · exact ((hR j hj).below hb).upd (fun e => by rw [e, hL] at hj; cases hj) _ (fun _ => by omega)
      · cases ho
        have l2 : L 2 = true := hd ⟨2, .data⟩ (by simp) rfl
        have e2 : b.tmps[11]?.getD undef = v 2 := hE 2 _ 11 rfl l2 rfl
        rw [(hR 2 l2).r2 rfl] at e2
        have l4 : L 4 = true := hd ⟨4, .data⟩ (by simp) rfl
        have e4 : b.tmps[13]?.getD undef = v 4 := hE 4 _ 13 rfl l4 rfl
        rw [(hR 4 l4).r4 rfl] at e4
        have l6 : L 6 = true := hd ⟨6, .data⟩ (by simp) rfl
        have e6 : b.tmps[15]?.getD undef = v 6 := hE 6 _ 15 rfl l6 rfl
        rw [(hR 6 l6).r6 rfl] at e6
        refine wp_val (.agg (limC ⟨0, l.length, Pl.edges l, Pl.depthOf l root, 0⟩)) (w1 := w') (by go_simp; rfl) ⟨_, rfl, hW, fun j hj => ?_⟩
        rcases hj with rfl | hj
        · exact ⟨fun e => by first | rfl | omega, fun e => by first | rfl | omega, fun e => by first | rfl | omega, fun e => by first | rfl | omega, fun e => by first | rfl | omega, fun e => by first | rfl | omega, fun e => by first | rfl | omega, fun e => by first | rfl | omega, fun e => by first | rfl | omega, fun e => by first | rfl | omega⟩
        · exact (hR j hj).upd (fun e => by rw [e, hL] at hj; cases hj) _ (fun _ => by omega)
      · cases ho
        have hb : Below w'.heap.size w' (w'.alloc (.cells #[.int .i64 0, .int .i64 0, .int .i64 0, .int .i64 0, .int .i64 0] 26)) := (Below.refl _ _).alloc (Nat.le_refl _) _
        refine wp_val (.pointer (some ⟨w'.heap.size, 0, none⟩)) (w1 := w'.alloc (.cells #[.int .i64 0, .int .i64 0, .int .i64 0, .int .i64 0, .int .i64 0] 26)) (by go_simp) ⟨_, rfl, hW.step hb, fun j hj => ?_⟩
        rcases hj with rfl | hj
        · exact ⟨fun e => by omega, fun e => by omega, fun e => by omega, fun e => by omega, fun e => by omega, fun e => by omega, fun e => by omega, fun e => by omega, fun _ => ⟨w'.heap.size, rfl, (Array.getElem?_eq_some_iff.1 hW.rr).1, ⟨0, 0, 0, 0, 0⟩, heap_alloc_new _ _⟩, fun e => by omega⟩
        · refine ((hR j hj).below hb).upd (fun e => by rw [e, hL] at hj; cases hj) _ (fun e => ?_)
          subst e
          exfalso
          have := hC 9 _ rfl hj ⟨8, .data⟩ (by simp) rfl
          rw [hL] at this; cases this
      · cases ho
        have l7 : L 7 = true := hd ⟨7, .data⟩ (by simp) rfl
        have l8 : L 8 = true := hd ⟨8, .data⟩ (by simp) rfl
        have e7 : b.tmps[16]?.getD undef = v 7 := hE 7 _ 16 rfl l7 rfl
        have e8 : b.tmps[3]?.getD undef = v 8 := hE 8 _ 3 rfl l8 rfl
        rw [(hR 7 l7).r7 rfl] at e7
        obtain ⟨g, h8, hg, Lx, hrow⟩ := (hR 8 l8).r8 rfl
        rw [h8] at e8
        obtain ⟨m0, m1, m2, m3, m4⟩ := cells5 hrow
        have n0 := frozen4 hrow 0
        have n1 := frozen4 hrow 1
        have n2 := frozen4 hrow 2
        have n3 := frozen4 hrow 3
        have n4 := frozen4 hrow 4
        refine wp_skip (w1 := ((((w'.setCell ⟨g, 0, none⟩ (.int .i64 0)).setCell ⟨g, 1, none⟩ (.int .i64 l.length)).setCell ⟨g, 2, none⟩ (.int .i64 (Pl.edges l))).setCell ⟨g, 3, none⟩ (.int .i64 (Pl.depthOf l root))).setCell ⟨g, 4, none⟩ (.int .i64 0)) (by unfold limC at e7; go_simp) ⟨_, rfl, hW.set5 hg _ _ _ _ _, fun j hj => ?_⟩
        have h5 := set5 hrow (.int .i64 0) (.int .i64 l.length) (.int .i64 (Pl.edges l)) (.int .i64 (Pl.depthOf l root)) (.int .i64 0)
        rcases hj with rfl | hj
        · exact ⟨fun e => by omega, fun e => by omega, fun e => by omega, fun e => by omega, fun e => by omega, fun e => by omega, fun e => by omega, fun e => by omega, fun e => by omega, fun _ => ⟨g, by rw [if_neg (by decide)]; exact h8, h5⟩⟩
        · have hx := (hR j hj).upd (i := 9) (fun e => by rw [e, hL] at hj; cases hj) undef (fun _ => by omega)
          refine ⟨hx.r0, hx.r1, hx.r2, hx.r3, hx.r4, hx.r5, hx.r6, hx.r7, fun e => ⟨g, by rw [if_neg (by decide)]; exact h8, hg, ⟨0, l.length, Pl.edges l, Pl.depthOf l root, 0⟩, h5⟩, fun e => ?_⟩
          rw [e, hL] at hj; cases hj
    · intro _ v w' _ hW hR
      obtain ⟨g, h8, hg, _⟩ := (hR 8 (by decide)).r8 rfl
      obtain ⟨g', h9, hrow⟩ := (hR 9 (by decide)).r9 rfl
      rw [h8] at h9
      cases h9
      have v0 := (hR 0 (by decide)).r0 rfl
      have v1 := (hR 1 (by decide)).r1 rfl
      have v2 := (hR 2 (by decide)).r2 rfl
      have v3 := (hR 3 (by decide)).r3 rfl
      have v4 := (hR 4 (by decide)).r4 rfl
      have v5 := (hR 5 (by decide)).r5 rfl
      have v6 := (hR 6 (by decide)).r6 rfl
      have v7 := (hR 7 (by decide)).r7 rfl
      have HW := Lib.hid hW
      have HRow := Lib.hid hrow
      have HGt := Lib.hid hg
      clear hR hW hrow hg hM1 hM0
      simp only [putL, Act.put, if_true, v0, v1, v2, v3, v4, v5, v6, v7, h8]
      go_simp
      go_wp2_with fail
      go_meet
      exact ⟨g, rfl, HW, HRow, HGt⟩
  case rest =>
    obtain ⟨g, rfl, hM, hRow, hgt⟩ := hcut
    clear hM0 H1 H2
    have d0 := hM.out.sc.c0
    have hM1 : Hid (MsS w (.slice A l.length c) root (wc.alloc (.map #[] 0))) := hM.out.al _
    have hRow1 : Hid ((wc.alloc (.map #[] 0)).heap[g]? = some (.cells (limC ⟨0, l.length, Pl.edges l, Pl.depthOf l root, (0 : Nat)⟩) 26 (0, 0))) := (Below.heap_alloc _ _ _ (Array.getElem?_eq_some_iff.1 hRow.out).1).trans hRow.out
    have hSn : Hid (SeenAt (wc.alloc (.map #[] 0)) wc.heap.size 0 []) := SeenAt.made wc
    have hgl : Hid (g < wc.heap.size) := (Array.getElem?_eq_some_iff.1 hRow.out).1
    have hbm2 : Hid (w.heap.size ≤ wc.heap.size) := hM.out.bel.size
    have hTot : Hid (Pl.textSum (Pl.textsOf l) [] ≤ 1152921504606846976) := Pl.textSum_sm HSm.out
    have hTl : Hid ((Pl.textsOf l).length ≤ 1099511627776) := Pl.textsOf_sm HSm.out
    clear hM hRow
    go_upto_region 3 with (fail)
    generalize hbm : wc.heap.size = bm at *
    generalize wc.alloc (.map #[] 0) = w2 at *
    clear hbm d0
    have d0 := hM1.out.sc.c0
    go_wp2_with fail
    go_loopw [6, 8, 21] (fun _ _ i wr => ∃ (k : Nat) (seen : List ByteArray) (S : Nat), k ≤ l.length ∧ i = .int .i64 k ∧ Hid (S + Pl.textSum (Pl.textsOf (l.drop k)) seen = Pl.textSum (Pl.textsOf l) []) ∧ Hid (seen.length + (Pl.textsOf (l.drop k)).length ≤ (Pl.textsOf l).length) ∧
      Hid (SeenAt wr bm seen.length seen) ∧ Hid (wr.heap[g]? = some (.cells (limC ⟨0, l.length, Pl.edges l, Pl.depthOf l root, S⟩) 26 (0, 0))) ∧ Hid (MsS w (.slice A l.length c) root wr)) (fun _ _ i _ => l.length - (intOf i).toNat)
    case atStart => exact ⟨0, [], 0, by omega, rfl, by unfold Hid; simp, by unfold Hid; simp, hSn, hRow1, hM1⟩
    case round =>
      clear hSn hRow1 hM1 d0
      obtain ⟨k, seen, S, hkl, rfl, hS, hLn, hSn, hRow, hM⟩ := hrel
      by_cases hlt : k < l.length
      · obtain ⟨A', c', hve, hcc⟩ := HV.out
        cases hve
        obtain ⟨ad, rfl, hca⟩ := hcc (by omega)
        obtain ⟨vi, vt, vk, h0, h1, h2, h3, hi, ht, hkk⟩ := hca k hlt
        replace h0 := (hM.out.bel.cell (World.block_lt_of_cell? w _ h0)).trans h0
        replace h1 := (hM.out.bel.cell (World.block_lt_of_cell? w _ h1)).trans h1
        replace h2 := (hM.out.bel.cell (World.block_lt_of_cell? w _ h2)).trans h2
        replace h3 := (hM.out.bel.cell (World.block_lt_of_cell? w _ h3)).trans h3
        have tl : decide ((k : Int) < l.length) = true := decide_eq_true (by omega)
        have hdr : l.drop k = l[k] :: l.drop (k + 1) := List.drop_eq_getElem_cons hlt
        have hts : Hid (Pl.textsOf (l.drop k) = l[k].texts ++ Pl.textsOf (l.drop (k + 1))) := by unfold Hid; rw [hdr]; rfl
        have hsz : Hid (∀ t ∈ l[k].texts, t.size ≤ 1048576) := HSm.out.size _ (List.getElem_mem hlt)
        have hnt : Hid (l[k].texts.length ≤ 1048576) := HSm.out.texts _ (List.getElem_mem hlt)
        clear hca hcc hdr
        generalize l[k] = x at *
        have HT := Lib.hid ht
        obtain ⟨VA, vc, rfl, _⟩ := hkk
        obtain ⟨TA, tc, rfl, _⟩ := ht
        obtain ⟨IA, ic, rfl, _⟩ := hi
        have hM1 : Hid (MsS w (.slice (some ad) l.length c) root (wr.alloc (.cells #[.int .i64 x.kind, .slice IA x.ints.length ic, .slice TA x.texts.length tc, .slice VA x.kids.length vc] 43))) := hM.out.al _
        have hRow1 : Hid ((wr.alloc (.cells #[.int .i64 x.kind, .slice IA x.ints.length ic, .slice TA x.texts.length tc, .slice VA x.kids.length vc] 43)).heap[g]? = some (.cells (limC ⟨0, l.length, Pl.edges l, Pl.depthOf l root, S⟩) 26 (0, 0))) := (Below.heap_alloc _ _ _ (Array.getElem?_eq_some_iff.1 hRow.out).1).trans hRow.out
        have hSn1 : Hid (SeenAt (wr.alloc (.cells #[.int .i64 x.kind, .slice IA x.ints.length ic, .slice TA x.texts.length tc, .slice VA x.kids.length vc] 43)) bm seen.length seen) := hSn.out.block (Below.heap_alloc _ _ _ hSn.out.lt)
        clear hM hRow hSn
        go_wp2_with fail
        clear h0 h1 h2 h3
        generalize wr.alloc (.cells #[.int .i64 x.kind, .slice IA x.ints.length ic, .slice TA x.texts.length tc, .slice VA x.kids.length vc] 43) = w4 at *
        go_loopw [8, 28] (fun _ j wi => ∃ (jn : Nat) (seen : List ByteArray) (S : Nat), jn ≤ x.texts.length ∧ j = .int .i64 jn ∧ Hid (S + Pl.textSum (x.texts.drop jn ++ Pl.textsOf (l.drop (k + 1))) seen = Pl.textSum (Pl.textsOf l) []) ∧ Hid (seen.length + (x.texts.drop jn ++ Pl.textsOf (l.drop (k + 1))).length ≤ (Pl.textsOf l).length) ∧
          Hid (SeenAt wi bm seen.length seen) ∧ Hid (wi.heap[g]? = some (.cells (limC ⟨0, l.length, Pl.edges l, Pl.depthOf l root, S⟩) 26 (0, 0))) ∧ Hid (MsS w (.slice (some ad) l.length c) root wi)) (fun _ j _ => x.texts.length - (intOf j).toNat)
        case atStart => exact ⟨0, seen, S, by omega, rfl, by unfold Hid; rw [List.drop_zero, ← hts.out]; exact hS.out, by unfold Hid; rw [List.drop_zero, ← hts.out]; exact hLn.out, hSn1, hRow1, hM1⟩
        case round =>
          clear hS hLn hM1 hRow1 hSn1
          obtain ⟨jn, seen, S, hjn, rfl, hS, hLn, hSn, hRow, hM⟩ := hrel
          by_cases hj : jn < x.texts.length
          · have tj : decide ((jn : Int) < x.texts.length) = true := decide_eq_true (by omega)
            have HJ : Hid (jn < x.texts.length) := hj
            have hjb : jn ≤ 1048576 := by have := hnt.out; omega
            obtain ⟨TA', tc', hve, hkc⟩ := HT.out.below hM.out.bel
            cases hve
            obtain ⟨td, rfl, hkc2⟩ := hkc (by omega)
            have e1 := hkc2 jn hj
            have hs1 := hsz.out _ (List.getElem_mem hj)
            have hdr : x.texts.drop jn = x.texts[jn] :: x.texts.drop (jn + 1) := List.drop_eq_getElem_cons hj
            clear hkc hkc2
            generalize x.texts[jn] = tx at *
            have hS' := hS.out
            have hLn' := hLn.out
            rw [hdr, List.cons_append] at hS' hLn'
            rw [List.length_cons] at hLn'
            rw [Pl.textSum_cons] at hS'
            by_cases hin : tx ∈ seen
            · have hL := hSn.out.look (q := true) hs1 (by simp [hin])
              rw [if_pos hin] at hS'
              have HS := Lib.hid hS'
              have HLn : Hid (seen.length + (x.texts.drop (jn + 1) ++ Pl.textsOf (l.drop (k + 1))).length ≤ (Pl.textsOf l).length) := by unfold Hid; omega
              clear hS hLn hdr hin hS' hLn' hj
              go_wp2_with fail
              go_roundw
              case rel => exact ⟨jn + 1, seen, S, HJ.out, by go_num, HS, HLn, hSn, hRow, hM⟩
              case measure => have := HJ.out; simp [intOf]; omega
            · have hL := hSn.out.look (q := false) hs1 (by simp [hin])
              rw [if_neg hin] at hS'
              have hSb : S + tx.size ≤ 1152921504606846976 := by have := hTot.out; omega
              have HS : Hid (S + tx.size + Pl.textSum (x.texts.drop (jn + 1) ++ Pl.textsOf (l.drop (k + 1))) (tx :: seen) = Pl.textSum (Pl.textsOf l) []) := by unfold Hid; omega
              have HLn : Hid ((tx :: seen).length + (x.texts.drop (jn + 1) ++ Pl.textsOf (l.drop (k + 1))).length ≤ (Pl.textsOf l).length) := by unfold Hid; rw [List.length_cons]; omega
              have HSl : Hid (seen.length < 2000000000000000) := by have := hTl.out; unfold Hid; omega
              clear hS hLn hdr hin hS' hLn' hj
              go_wp2_with (at_mapUpdate; refine seen_put rfl rfl (.tmp 36) (.tmp 37) _ rfl hSn.out HSl.out hs1 rfl rfl rfl ?_)
              intro w5 hSn5 hG5
              have hRow5 : Hid (w5.heap[g]? = _) := (hG5.block _ (Array.getElem?_eq_some_iff.1 hRow.out).1 (by intro h; cases h; exact hSn.out.notCells hRow.out rfl)).trans hRow.out
              have hM5 : Hid (MsS w (.slice (some ad) l.length c) root w5) := by
                have hb5 : Below w.heap.size w w5 := Upd.below hM.out.bel (Upd.grown hG5) hM.out.bel.size (fun i hi => by cases hi; exact hbm2.out)
                refine ⟨⟨(hG5.block _ (Array.getElem?_eq_some_iff.1 hM.out.sc.row).1 (by intro h; cases h; exact hSn.out.notCells hM.out.sc.row rfl)).trans hM.out.sc.row, hb5⟩, (hG5.block _ (Array.getElem?_eq_some_iff.1 hM.out.rr).1 (by intro h; cases h; exact hSn.out.notCells hM.out.rr rfl)).trans hM.out.rr⟩
              have HSn5 := Lib.hid hSn5
              clear hSn5 hG5 hSn hRow hM hL e1
              obtain ⟨_, _, _, _, m4⟩ := cells5 hRow5.out
              have n4 := frozen4 hRow5.out 4
              have hRow6 : Hid ((w5.setCell ⟨g, 4, none⟩ (.int .i64 (S + tx.size))).heap[g]? = some (.cells (limC ⟨0, l.length, Pl.edges l, Pl.depthOf l root, (S + tx.size : Nat)⟩) 26 (0, 0))) := by
                unfold Hid; rw [heap_setCell_same w5 g 4 _ _ _ hRow5.out]; rfl
              have hM6 : Hid (MsS w (.slice (some ad) l.length c) root (w5.setCell ⟨g, 4, none⟩ (.int .i64 (S + tx.size)))) := hM5.out.set hgt.out 4 _
              have hSn6 : Hid (SeenAt (w5.setCell ⟨g, 4, none⟩ (.int .i64 (S + tx.size))) bm (seen.length + 1) (tx :: seen)) := HSn5.out.block (heap_setCell_other w5 _ _ _ (HSn5.out.notCells hRow5.out))
              clear hRow5 hM5 HSn5
              go_wp2_with fail
              go_roundw
              case rel => exact ⟨jn + 1, tx :: seen, S + tx.size, HJ.out, by go_num, HS, HLn, hSn6, hRow6, hM6⟩
              case measure => have := HJ.out; simp [intOf]; omega
          · obtain rfl : jn = x.texts.length := by omega
            have HS : Hid (S + Pl.textSum (Pl.textsOf (l.drop (k + 1))) seen = Pl.textSum (Pl.textsOf l) []) := by have := hS.out; rw [List.drop_length, List.nil_append] at this; exact this
            have HLn : Hid (seen.length + (Pl.textsOf (l.drop (k + 1))).length ≤ (Pl.textsOf l).length) := by have := hLn.out; rw [List.drop_length, List.nil_append] at this; exact this
            clear hS hLn
            go_wp2_with fail
            go_roundw
            case rel => exact ⟨k + 1, seen, S, by omega, by go_num, HS, HLn, hSn, hRow, hM⟩
            case measure => simp [intOf]; omega
      · obtain rfl : k = l.length := by omega
        have hSe : Hid (S = Pl.textSum (Pl.textsOf l) []) := by have := hS.out; rw [List.drop_length] at this; unfold Hid; simpa [Pl.textsOf, Pl.textSum] using this
        obtain ⟨m0, m1, m2, m3, m4⟩ := cells5 hRow.out
        obtain ⟨q0, q1, q2, q3, q4⟩ := cells5 hM.out.rr
        have n0 := frozen4 hM.out.rr 0
        have n1 := frozen4 hM.out.rr 1
        have n2 := frozen4 hM.out.rr 2
        have n3 := frozen4 hM.out.rr 3
        have n4 := frozen4 hM.out.rr 4
        have hfin := set5 hM.out.rr (.int .i64 0) (.int .i64 l.length) (.int .i64 (Pl.edges l)) (.int .i64 (Pl.depthOf l root)) (.int .i64 S)
        have HFin := Lib.hid hfin
        have hB : Hid (Below w.heap.size w wr) := hM.out.bel
        clear hfin hRow hM hSn hS hLn
        go_wp2_with fail
        exact bodyPost_ret (v := .agg #[.int .i64 0, .int .i64 l.length, .int .i64 (Pl.edges l), .int .i64 (Pl.depthOf l root), .int .i64 S]) (results_cell_row rfl _ _ (w.heap.size + 1) 26 _ (0, 0) _ rfl HFin.out Tryd.underlying26 rfl rfl) rfl
          ⟨by unfold Pl.measure; rw [← hSe.out]; rfl, ((((hB.out.setCell (p := ⟨w.heap.size + 1, 0, none⟩) (Nat.le_succ _) _).setCell (p := ⟨w.heap.size + 1, 1, none⟩) (Nat.le_succ _) _).setCell (p := ⟨w.heap.size + 1, 2, none⟩) (Nat.le_succ _) _).setCell (p := ⟨w.heap.size + 1, 3, none⟩) (Nat.le_succ _) _).setCell (p := ⟨w.heap.size + 1, 4, none⟩) (Nat.le_succ _) _⟩
end Go.Proofs.YtdejljgoebcmpaaDoor
