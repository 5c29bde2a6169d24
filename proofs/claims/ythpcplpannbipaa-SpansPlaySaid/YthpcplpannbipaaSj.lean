/- Spans on the heap: Next walked; no condition. -/
import Derived.Test.YthpcplpannbipaaSi
import Derived.Laws.Cover1
set_option linter.unusedVariables false
set_option linter.unusedSimpArgs false
set_option linter.unusedSectionVars false
namespace Go.Proofs.Ythpcplpannbipaa.Sa
open Go.RowKit Go.Maps Go.MapKept Go.Proofs.YthpcplpannbipaaW.PrintWords Go.Proofs.YthpcplpannbipaaW.PrintLast Go.Proofs.Ythpcplpannbipaa.X Go.Proofs.Ythpcplpannbipaa.Kx Go.Proofs.Ythpcplpannbipaa.Mp Go.Proofs.Ythpcplpannbipaa.Mq Go.Proofs.Ythpcplpannbipaa.Sq Go.Proofs.Ythpcplpannbipaa.Mb Go.Proofs.Ythpcplpannbipaa.Maps Go.Proofs.Ythpcplpannbipaa.Jn_
section
variable {w : World} {ok : Nat → Prop} {b : Nat} {s : St ByteArray}
def toO (t : ByteArray) : Option ByteArray := if t = ⟨#[]⟩ then none else some t
def nxV (o : Option ByteArray) : Value := .tuple #[.string (o.getD ⟨#[]⟩), .bool o.isSome]
set_option maxHeartbeats 8000000 in
set_option maxRecDepth 100000 in
theorem Next_c (h : SpAt w ok b s) (rev : Int) (f t : ByteArray) (hkeys : (keysG s.g).length ≤ 1000000) : Calls Try.prog 32 #[.pointer (some ⟨b, 0, none⟩), .int .i64 rev, .string f, .string t] w fun e w' => e = .returned (nxV (nextS blt s rev f (toO t))) ∧ Below w.heap.size w w' := by
  have HS := Aside0.mk h
  obtain ⟨m, ks, L, hA, hI⟩ := h
  obtain ⟨A, c, rfl⟩ := Kd.R_slice hA.hk
  have c1 := blk_cell hA.hb 1
  have hC := (Kd.R_reads' hA.hk).2.2
  have hcc := (Kd.R_reads' hA.hk).2.1
  have hsearch := Se.search_c hC hcc hI.srt hkeys f
  have HAA := Aside0.mk hA
  have HI := Aside0.mk hI
  have HKEYS := Aside0.mk hkeys
  clear hA hI hC hcc hkeys
  go_enter Try.func32, Try.ntmps32
  go_wp2_with fail
  refine hsearch.mono ?_
  rintro e w3 ⟨rfl, hd⟩
  obtain ⟨nn, rfl⟩ := hd
  clear hsearch
  have HB3 : Aside0 (Below w.heap.size w (w.drewN nn)) := ⟨pw_below_drewN (Below.refl _ _) nn⟩
  have hp := pos_le (lt := blt) (keysG s.g) f
  obtain ⟨i, hi⟩ : ∃ i, pos blt (keysG s.g) f = i := ⟨_, rfl⟩
  have HPOS := Aside0.mk hi
  rw [hi] at hp ⊢
  have HP := Aside0.mk hp
  have hcc := (Kd.R_reads' HAA.out.hk).2.1
  obtain ⟨n, hn⟩ : ∃ n, (keysG s.g).length = n := ⟨_, rfl⟩
  have HN := Aside0.mk hn
  rw [hn] at c1 hp hcc ⊢
  have HCC := Aside0.mk hcc
  by_cases hend : i = n
  · have hnx : nextS blt s rev f (toO t) = none := by
      unfold nextS
      rw [HPOS.out, List.drop_eq_nil_of_le (by rw [hend, ← HN.out]; simp [keysG])]
      rfl
    have HNX := Aside0.mk hnx
    subst hend
    clear hnx hn hi hp hcc
    by_cases hci : c = i
    · subst hci
      go_wp2_with fail
      go_loopg [32] (0 : Nat) (fun kq v wr => v = .int .i64 0 ∧ wr = w.drewN nn)
      case atStart => exact ⟨rfl, rfl⟩
      case round =>
        obtain ⟨h4, hw⟩ := hrel
        subst h4
        subst hw
        go_wp2
        go_ret2
        exact ⟨by rw [HNX.out]; rfl, HB3.out⟩
    · have hci2 : (c = i) = False := eq_false hci
      clear hci
      go_wp2_with fail
      go_loopg [32] (0 : Nat) (fun kq v wr => v = .int .i64 0 ∧ wr = w.drewN nn)
      case atStart => exact ⟨rfl, rfl⟩
      case round =>
        obtain ⟨h4, hw⟩ := hrel
        subst h4
        subst hw
        go_wp2
        go_ret2
        exact ⟨by rw [HNX.out]; rfl, HB3.out⟩
  · have hlt : i < n := by omega
    have HLT := Aside0.mk hlt
    have hci2 : (c = i) = False := eq_false (by omega)
    obtain ⟨G, hG⟩ : ∃ g, A = some ⟨g, 0, none⟩ := by
      obtain ⟨inner, hown⟩ := Kd.R_own HAA.out.hk
      rcases hown.2 with ⟨_, h0⟩ | ⟨g, cap, cur, hv, _⟩
      · omega
      · injection hv with h1; exact ⟨g, h1⟩
    subst hG
    have q1 : (i ≤ n) = True := eq_true (by omega)
    have q2 : decide (i ≤ n) = true := decide_eq_true (by omega)
    have q3 : ((i : Int) ≤ (n : Int)) = True := eq_true (by omega)
    have q4 : decide ((i : Int) ≤ (n : Int)) = true := decide_eq_true (by omega)
    obtain ⟨d, hd⟩ : ∃ d, n - i = d := ⟨_, rfl⟩
    have HD := Aside0.mk hd
    clear hn hi hp hcc hend hlt hd
    go_wp2_with fail
    go_loopg [32] d (fun kq v wr => ∃ j : Nat, v = .int .i64 j ∧ Aside0 (i + j + kq = n) ∧ Aside0 (Below w.heap.size w wr) ∧ Aside0 (nextS blt s rev f (toO t) = nextL blt rev (toO t) (s.g.drop (i + j))))
    case atStart => exact ⟨0, rfl, ⟨by have := HLT.out; have := HD.out; omega⟩, HB3, ⟨by unfold nextS; rw [HPOS.out]; rfl⟩⟩
    case round =>
      obtain ⟨j, h4, HJ, HB, HX⟩ := hrel
      rename World => wr
      subst h4
      cases gk with
      | zero =>
        have p1 : decide ((j : Int) < ((n - i : Nat) : Int)) = false := decide_eq_false (by have := HJ.out; omega)
        have p2 : ((j : Int) < ((n - i : Nat) : Int)) = False := eq_false (by have := HJ.out; omega)
        have p3 : decide (j < n - i) = false := decide_eq_false (by have := HJ.out; omega)
        have p4 : (j < n - i) = False := eq_false (by have := HJ.out; omega)
        go_wp2
        go_ret2
        refine ⟨?_, HB.out⟩
        rw [HX.out, List.drop_eq_nil_of_le (by have := HJ.out; have := HN.out; unfold keysG at this; rw [List.length_map] at this; omega)]
        rfl
      | succ kq =>
        have hj : i + j < n := by have := HJ.out; omega
        have p1 : decide ((j : Int) < ((n - i : Nat) : Int)) = true := decide_eq_true (by omega)
        have p2 : ((j : Int) < ((n - i : Nat) : Int)) = True := eq_true (by omega)
        have p3 : decide (j < n - i) = true := decide_eq_true (by omega)
        have p4 : (j < n - i) = True := eq_true (by omega)
        have p5 : decide ((j : Int) < 0) = false := decide_eq_false (by omega)
        have p6 : (0 ≤ (j : Int)) = True := eq_true (by omega)
        have hlen : i + j < s.g.length := by have := HN.out; unfold keysG at this; rw [List.length_map] at this; omega
        obtain ⟨q, hq⟩ : ∃ q, s.g[i + j] = q := ⟨_, rfl⟩
        have hdr : s.g.drop (i + j) = q :: s.g.drop (i + j + 1) := by rw [List.drop_eq_getElem_cons hlen, hq]
        have hmem : q ∈ s.g := by rw [← hq]; exact List.getElem_mem _
        have hkey : (keysG s.g)[i + j]'(by rw [HN.out]; exact hj) = q.1 := by simp [keysG, hq]
        have hSP : SpAt wr ok b s := HS.out.below HB.out
        have hcall := Has_c hSP q.1 rev
        have hh : hasS s q.1 rev = q.2.any (holds rev) := by unfold hasS; rw [get_mem HI.out.srt blt_TO hmem]
        have hcellk : wr.cell? ⟨G, i + j, none⟩ = some (.string q.1) := by
          have h1 := (Kd.R_cell (⟨#[]⟩ : ByteArray) ((HAA.out.move (w' := wr) (fun n _ hlt => HB.out.block n hlt)).hk) ((i + j : Nat) : Int) (by omega) (by rw [HN.out]; omega)).1
          unfold rdOf at h1
          rw [Int.toNat_natCast, List.getD_eq_getElem?_getD, List.getElem?_eq_getElem (by rw [HN.out]; exact hj), Option.getD_some, hkey] at h1
          exact h1
        have HH := Aside0.mk hh
        have HDR := Aside0.mk hdr
        have HCALL := Aside0.mk hcall
        have HJL := Aside0.mk hj
        clear hSP hcall hh hdr hkey hmem hq hlen hj
        by_cases ht : t = ⟨#[]⟩
        · subst ht
          go_wp2_with fail
          refine HCALL.out.mono ?_
          rintro e w2 ⟨rfl, hb⟩
          have HB2 : Aside0 (Below w.heap.size w w2) := ⟨HB.out.trans (hb.mono HB.out.size)⟩
          obtain ⟨r, hr⟩ : ∃ r, hasS s q.1 rev = r := ⟨_, rfl⟩
          rw [hr]
          have HR := Aside0.mk hr
          clear hr hb HCALL
          cases r with
          | true =>
            go_wp2
            go_ret2
            refine ⟨?_, HB2.out⟩
            rw [HX.out, HDR.out, nextL, if_neg (by simp [toO]), if_pos (by rw [← HH.out]; exact HR.out)]
            rfl
          | false =>
            go_wp2
            go_roundg kq
            case measure => omega
            case rel => exact ⟨j + 1, by have h1 : j ≤ 1000000 := (by have := HJ.out; have := HKEYS.out; have := HN.out; omega); have h2 : wrap64 ((j : Int) + 1) = ((j + 1 : Nat) : Int) := (by unfold wrap64; omega); rw [h2], ⟨by have := HJ.out; omega⟩, HB2, ⟨by rw [HX.out, HDR.out, nextL, if_neg (by simp [toO]), if_neg (by rw [← HH.out, HR.out]; decide)]; rfl⟩⟩
        · have hl0 : t.toList ≠ [] := fun e => ht (ByteArray.ext (Array.toList_inj.1 (by rw [← Lib.toList_data, e])))
          have hl1 : (t.toList = []) = False := eq_false hl0
          have hl2 : t.toList.isEmpty = false := by rw [List.isEmpty_eq_false_iff]; exact hl0
          have hto : toO t = some t := by unfold toO; rw [if_neg ht]
          have HTO := Aside0.mk hto
          clear hto hl0 ht
          by_cases hb0 : blt q.1 t = true
          · have hb1 : Op.bytesLess q.1.toList t.toList = true := hb0
            have HB0 := Aside0.mk hb0
            clear hb0
            go_wp2_with fail
            refine HCALL.out.mono ?_
            rintro e w2 ⟨rfl, hb⟩
            have HB2 : Aside0 (Below w.heap.size w w2) := ⟨HB.out.trans (hb.mono HB.out.size)⟩
            obtain ⟨r, hr⟩ : ∃ r, hasS s q.1 rev = r := ⟨_, rfl⟩
            rw [hr]
            have HR := Aside0.mk hr
            clear hr hb HCALL
            cases r with
            | true =>
              go_wp2
              go_ret2
              refine ⟨?_, HB2.out⟩
              rw [HX.out, HDR.out, nextL, if_neg (by rw [HTO.out, Option.any_some, HB0.out]; decide), if_pos (by rw [← HH.out]; exact HR.out)]
              rfl
            | false =>
              go_wp2
              go_roundg kq
              case measure => omega
              case rel => exact ⟨j + 1, by have h1 : j ≤ 1000000 := (by have := HJ.out; have := HKEYS.out; have := HN.out; omega); have h2 : wrap64 ((j : Int) + 1) = ((j + 1 : Nat) : Int) := (by unfold wrap64; omega); rw [h2], ⟨by have := HJ.out; omega⟩, HB2, ⟨by rw [HX.out, HDR.out, nextL, if_neg (by rw [HTO.out, Option.any_some, HB0.out]; decide), if_neg (by rw [← HH.out, HR.out]; decide)]; rfl⟩⟩
          · have hb1 : Op.bytesLess q.1.toList t.toList = false := Bool.eq_false_iff.2 hb0
            have HB0 : Aside0 (blt q.1 t = false) := ⟨hb1⟩
            clear hb0 HCALL
            go_wp2
            go_ret2
            refine ⟨?_, HB.out⟩
            rw [HX.out, HDR.out, nextL, if_pos (by rw [HTO.out, Option.any_some, HB0.out]; rfl)]
            rfl
end
end Go.Proofs.Ythpcplpannbipaa.Sa
