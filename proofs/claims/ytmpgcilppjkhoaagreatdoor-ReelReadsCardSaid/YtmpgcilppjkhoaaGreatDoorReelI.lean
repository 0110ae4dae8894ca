/-
  The walk of the document's answer: commands' bytes.
-/
import Derived.Test.YtmpgcilppjkhoaaGreatDoorReelG
import Derived.Test.YtmpgcilppjkhoaaGreatDoorReelH
import Derived.Lib.ConvBytes
namespace Go.Proofs.YtmpgcilppjkhoaaGreatDoor
open Go.RowKit Go.Mem Go.Ops Go.Cells Go.Oct Go.Reel
set_option linter.unusedSimpArgs false
set_option linter.unusedVariables false
set_option maxRecDepth 100000

theorem Tryz.zeroROp : (Tryz.prog.info? 40).map (·.zero) = some (some (.agg (Go.Proofs.YtmpgcilppjkhoaaGreatDoor.zeroOp).toArray)) := by kernel_rfl
theorem Tryz.rowROp : Row Tryz.prog 40 7 := ⟨by kernel_rfl, by kernel_rfl⟩

theorem _root_.Go.Reel.App.later {e ty : TypeId} {w0 w w' : World} {tx : Nat} {xv : List Value} {v : Value} {bs : List UInt8} (h : App e ty w0 tx xv w v bs) (hb : Below w.heap.size w w') : App e ty w0 tx xv w' v bs :=
  ⟨h.own.later hb, h.blk.below hb h.blk.lt, h.bel.trans (hb.mono h.bel.size)⟩

/-- A number's lowest byte. -/
def byteOf (k : Int) : UInt8 := UInt8.ofNat (k % 256).toNat
theorem byteOf_val (k : Int) : B (byteOf k) = .int .u8 (k % 256) := by
  show Value.int .u8 _ = _
  unfold byteOf
  rw [UInt8.toNat_ofNat_of_lt' (by show _ < 256; omega)]
  congr 1
  omega
theorem putN_one (k : Int) : putN k 1 = [byteOf k] := by
  rw [putN_eq _ _ (by omega), bytesOf_succ, bytesOf_zero]
  congr 1
  apply UInt8.toNat_inj.1
  unfold byteOf u64
  rw [UInt8.toNat_ofNat', UInt8.toNat_ofNat', UInt64.toNat_ofNat']
  omega

theorem conv_bytes (w : World) (bs : List UInt8) : ∃ cap w', (convert 9 24 (.string (str bs))).run Tryz.prog w = .ok (.slice (some ⟨w.heap.size, 0, none⟩) bs.length cap) w' ∧ Below w.heap.size w w' ∧ Lies w' (some ⟨w.heap.size, 0, none⟩) (bs.map B) := by
  have h := Lib.run_convert_string_bytes (P := Tryz.prog) w 9 24 5 (str bs) Tryz.underlying9 Tryz.underlying24 Tryz.underlying5
  rw [str_size] at h
  refine ⟨_, _, h, ⟨rfl, rfl, rfl, by rw [Lib.bytesWorld_size]; omega, fun k hk => Lib.bytesWorld_at_old w _ _ k hk⟩, ?_⟩
  intro j u hu
  refine ⟨_, _, rfl, ?_⟩
  rw [List.getElem?_map] at hu
  cases hb : bs[j]? with
  | none => rw [hb] at hu; cases hu
  | some x =>
    rw [hb] at hu
    simp only [Option.map_some, Option.some.injEq] at hu
    subst hu
    have hj : j < bs.length := (List.getElem?_eq_some_iff.1 hb).1
    have := Lib.bytesWorld_cell w 5 (str bs) j (by rw [str_size]; exact hj)
    rw [Nat.zero_add, this]
    simp [str, List.getD, hb]

theorem lenL (n : Nat) (h : n < 18446744073709551616) : Value.int .u64 (n : Int) = L (u64 (n : Int)) := by
  show _ = Value.int .u64 _
  rw [u64_nat n h]

theorem refputN_ok (k : Int) (many : Nat) (w : World) (hm : many ≤ 8) :
    Calls Tryz.prog 22 #[L (u64 k), .int .i64 many] w fun e w' => ∃ ao cap, e = .returned (.slice ao many cap) ∧ Lies w' ao ((putN k many).map B) ∧ Below w.heap.size w w' := by
  refine (refput_ok (u64 k) many w hm).mono ?_
  rintro e w' ⟨v, rfl, hown, hbel⟩
  obtain ⟨ao, cap, rfl, _, _, hl⟩ := hown.form
  rw [bytesOf_length]
  rw [← putN_eq k many hm] at hl
  exact ⟨ao, cap, rfl, hl, hbel⟩

set_option maxHeartbeats 4000000 in
theorem refwrite_ok (ao : Option Addr) (n cap : Nat) (xs : List Opr) (w : World) (hn : xs.length = n) (hx : OpsIn w ao xs) (hn2 : n ≤ 100000) (hm : ∀ x ∈ xs, Mild x.c) :
    Calls Tryz.prog 12 #[.slice ao n cap] w fun e w' => ∃ v, e = .returned (.tuple #[v, .int .i64 (errP (xs.map (·.c)))]) ∧
      (errP (xs.map (·.c)) = 0 → OwnB 5 w' w.heap.size v (outP (xs.map (·.c)))) ∧ (errP (xs.map (·.c)) ≠ 0 → v = .slice none 0 0) ∧ Below w.heap.size w w' := by
  have HN := Lib.hid hn
  have HX := Lib.hid hx
  have HM := Lib.hid hm
  clear hn hx hm
  go_enter Tryz.func12, Tryz.ntmps12
  go_wp2
  go_loopw [4, 5] (fun v c wr => ∃ j : Nat, j ≤ n ∧ c = .int .i64 j ∧ Hid (errP ((xs.map (·.c)).take j) = 0) ∧ Hid (OwnB 5 wr w.heap.size v (outP ((xs.map (·.c)).take j))) ∧ Hid (Below w.heap.size w wr)) (fun _ c _ => n - (intOf c).toNat)
  case atStart => exact ⟨0, by omega, rfl, rfl, OwnB.nil _ _ _, Below.refl _ _⟩
  case round =>
    obtain ⟨j, hj, rfl, HE, HO, HB⟩ := hrel
    by_cases hlt : j < n
    · obtain ⟨x, hget⟩ : ∃ x, xs[j]? = some x := ⟨xs[j]'(by rw [HN.out]; exact hlt), by simp⟩
      have HGET := Lib.hid (show (xs.map (·.c))[j]? = some x.c by rw [List.getElem?_map, hget]; rfl)
      have HOT := Lib.hid (outP_take HGET.out)
      have HLEN := Lib.hid (show (outP ((xs.map (·.c)).take j)).length ≤ 700000000 by
        have := outP_length ((xs.map (·.c)).take j) (fun c hc => by
          obtain ⟨y, hy, rfl⟩ := List.mem_map.1 (List.mem_of_mem_take hc)
          exact HM.out y hy)
        rw [List.length_take] at this
        omega)
      obtain ⟨hmk, hmb, hmn⟩ := HM.out x (List.mem_of_getElem? hget)
      have HXI := Lib.hid (HX.out.each x (List.mem_of_getElem? hget))
      obtain ⟨hin, xb, xoff, rfl, hxb, hr⟩ := (HX.out.below HB.out).at hget
      have HR := Lib.hid hr
      clear hget hin hr
      have HL7 := Lib.hid x.vals_length
      have hsz := str_size x.c.name
      generalize outP ((xs.map (·.c)).take j) = bs at *
      go_wp2_with (first | (refine wpList_load_mid rfl 40 (.tmp 16) rfl xb (xoff + j * 7) rfl _ _ HR.out Tryz.underlying40 rfl (by rw [HL7.out]; exact Tryz.rowROp.2) ?_) | (refine wpList_var 40 zeroOp _ rfl rfl Tryz.zeroROp rfl ?_))
      intro w2 hb2 hbel2
      have HO := Lib.hid (HO.out.later hbel2)
      have htx := HB.out.size
      have HB := Lib.hid (HB.out.trans (hbel2.mono HB.out.size))
      generalize htxe : wr.heap.size = tx at *
      clear hbel2
      go_wp2_with (refine hb2.wstore rfl rfl rfl rfl Tryz.rowROp rfl HL7.out x.vals_one ?_)
      intro w3 hb3 ho3
      have HA := Lib.hid (show App 5 40 w tx x.vals w3 _ bs from ⟨HO.out.only ho3 hb2 (by decide), hb3, below_only HB.out ho3 htx⟩)
      clear HO HB hb2 hb3 ho3 HR
      go_wp2_with (refine HA.out.blk.wload rfl rfl rfl Tryz.rowROp HL7.out ?_)
      go_wp2_with fail
      refine (refwrong_ok x _).mono ?_
      rintro e w4 ⟨rfl, hbel4⟩
      have HA := Lib.hid (HA.out.later hbel4)
      clear hbel4
      by_cases herr : x.c.err = 0
      case neg =>
        obtain ⟨het, hee⟩ := errP_take HE.out HGET.out
        have hne : (((x.c.err : Nat) : Int) != 0) = true := by simp; omega
        have HEE := Lib.hid (hee herr)
        have HERR := Lib.hid herr
        clear het hee herr
        go_wp2
        go_ret2
        exact ⟨_, by rw [HEE.out]; rfl, fun h => absurd (HEE.out ▸ h) HERR.out, fun _ => rfl, HA.out.bel⟩
      obtain ⟨het, hee⟩ := errP_take HE.out HGET.out
      have HET := Lib.hid (het.trans herr)
      have HPUT := Lib.hid (x.c.bytes_put bs herr)
      rw [herr]
      clear het hee HE
      have HY0 := Lib.hid (byteOf_val x.c.kind)
      have HY1 := Lib.hid (byteOf_val x.c.a)
      have c0 := HA.out.blk.cell 0 _ rfl
      have c1 := HA.out.blk.cell 1 _ rfl
      have HAO := Lib.hid (fun (o : Obj) => HA.out.later (later_alloc _ o))
      go_wp2_with (at_builtin; refine wpList_append_bytes rfl 24 (.tmp 23) (.tmp 30) rfl Tryz.underlying24 Tryz.infoByteR rfl (HAO.out _).own (some ⟨w4.heap.size, 0, none⟩) 2 2 [byteOf x.c.kind, byteOf x.c.a] rfl rfl ?hl (by have := HLEN.out; simp [putN_length]; omega) (HAO.out _).bel.size ?_)
      case hl => simp only [List.map_cons, List.map_nil, HY0.out, HY1.out]; exact (Blk.new _ [_, _] _).lies
      intro v5 w5 hown hg
      have HA := Lib.hid ((HAO.out _).step (by decide) hown hg)
      clear hown hg HAO HY0 HY1 c0 c1
      have c2 := HA.out.blk.cell 2 _ rfl
      go_wp2_with fail
      rw [wrap_u64]
      refine (refputN_ok x.c.n 4 _ (by omega)).mono ?_
      rintro e w6 ⟨ap, capp, rfl, hlp, hbel⟩
      have HA := Lib.hid (HA.out.later hbel)
      have HLP := Lib.hid hlp
      have HPL := Lib.hid (putN_length x.c.n 4 (by omega))
      clear hbel hlp c2
      go_wp2_with (at_builtin; refine wpList_append_bytes rfl 24 (.tmp 32) (.tmp 36) rfl Tryz.underlying24 Tryz.infoByteR rfl HA.out.own ap 4 capp (putN x.c.n 4) rfl HPL.out HLP.out (by have := HLEN.out; simp [putN_length]; omega) HA.out.bel.size ?_)
      intro v7 w7 hown hg
      have HA := Lib.hid (HA.out.step (by decide) hown hg)
      clear hown hg HLP HPL
      have c3 := HA.out.blk.cell 3 _ rfl
      go_wp2_with fail
      rw [wrap_u64]
      refine (refputN_ok x.c.m 4 _ (by omega)).mono ?_
      rintro e w8 ⟨ap, capp, rfl, hlp, hbel⟩
      have HA := Lib.hid (HA.out.later hbel)
      have HLP := Lib.hid hlp
      have HPL := Lib.hid (putN_length x.c.m 4 (by omega))
      clear hbel hlp c3
      go_wp2_with (at_builtin; refine wpList_append_bytes rfl 24 (.tmp 38) (.tmp 42) rfl Tryz.underlying24 Tryz.infoByteR rfl HA.out.own ap 4 capp (putN x.c.m 4) rfl HPL.out HLP.out (by have := HLEN.out; simp [putN_length]; omega) HA.out.bel.size ?_)
      intro v9 w9 hown hg
      have HA := Lib.hid (HA.out.step (by decide) hown hg)
      clear hown hg HLP HPL
      have HY0 := Lib.hid (byteOf_val (x.c.key.length : Int))
      have c4 := HA.out.blk.cell 4 _ rfl
      have HAO := Lib.hid (fun (o : Obj) => HA.out.later (later_alloc _ o))
      go_wp2_with (at_builtin; refine wpList_append_bytes rfl 24 (.tmp 44) (.tmp 49) rfl Tryz.underlying24 Tryz.infoByteR rfl (HAO.out _).own (some ⟨w9.heap.size, 0, none⟩) 1 1 [byteOf (x.c.key.length : Int)] rfl rfl ?hl (by have := HLEN.out; simp [putN_length]; omega) (HAO.out _).bel.size ?_)
      case hl => simp only [List.map_cons, List.map_nil, HY0.out]; exact (Blk.new _ [_] _).lies
      intro v10 w10 hown hg
      have HA := Lib.hid ((HAO.out _).step (by decide) hown hg)
      clear hown hg HAO HY0 c4
      have c4 := HA.out.blk.cell 4 _ rfl
      go_wp2_with (at_builtin; refine wpList_append_bytes rfl 24 (.tmp 51) (.tmp 53) rfl Tryz.underlying24 Tryz.infoByteR rfl HA.out.own x.ko _ x.kc x.c.key rfl rfl ((HXI.out.below HA.out.bel).key) (by have := HLEN.out; simp [putN_length]; omega) HA.out.bel.size ?_)
      intro v11 w11 hown hg
      have HA := Lib.hid (HA.out.step (by decide) hown hg)
      clear hown hg c4
      have c5 := HA.out.blk.cell 5 _ rfl
      go_wp2_with fail
      rw [lenL x.c.b.length (by omega)]
      refine (refputN_ok x.c.b.length 2 _ (by omega)).mono ?_
      rintro e w12 ⟨ap, capp, rfl, hlp, hbel⟩
      have HA := Lib.hid (HA.out.later hbel)
      have HLP := Lib.hid hlp
      have HPL := Lib.hid (putN_length x.c.b.length 2 (by omega))
      clear hbel hlp c5
      go_wp2_with (at_builtin; refine wpList_append_bytes rfl 24 (.tmp 55) (.tmp 60) rfl Tryz.underlying24 Tryz.infoByteR rfl HA.out.own ap 2 capp (putN x.c.b.length 2) rfl HPL.out HLP.out (by have := HLEN.out; simp [putN_length]; omega) HA.out.bel.size ?_)
      intro v13 w13 hown hg
      have HA := Lib.hid (HA.out.step (by decide) hown hg)
      clear hown hg HLP HPL
      have c5 := HA.out.blk.cell 5 _ rfl
      go_wp2_with (at_builtin; refine wpList_append_bytes rfl 24 (.tmp 62) (.tmp 64) rfl Tryz.underlying24 Tryz.infoByteR rfl HA.out.own x.bo _ x.bc x.c.b rfl rfl ((HXI.out.below HA.out.bel).b) (by have := HLEN.out; simp [putN_length]; omega) HA.out.bel.size ?_)
      intro v14 w14 hown hg
      have HA := Lib.hid (HA.out.step (by decide) hown hg)
      clear hown hg c5
      have c6 := HA.out.blk.cell 6 _ rfl
      go_wp2_with fail
      rw [lenL x.c.name.length (by omega)]
      refine (refputN_ok x.c.name.length 2 _ (by omega)).mono ?_
      rintro e w15 ⟨ap, capp, rfl, hlp, hbel⟩
      have HA := Lib.hid (HA.out.later hbel)
      have HLP := Lib.hid hlp
      have HPL := Lib.hid (putN_length x.c.name.length 2 (by omega))
      clear hbel hlp c6
      go_wp2_with (at_builtin; refine wpList_append_bytes rfl 24 (.tmp 66) (.tmp 71) rfl Tryz.underlying24 Tryz.infoByteR rfl HA.out.own ap 2 capp (putN x.c.name.length 2) rfl HPL.out HLP.out (by have := HLEN.out; simp [putN_length]; omega) HA.out.bel.size ?_)
      intro v16 w16 hown hg
      have HA := Lib.hid (HA.out.step (by decide) hown hg)
      clear hown hg HLP HPL
      have c6 := HA.out.blk.cell 6 _ rfl
      obtain ⟨cc, wc, hrun, hbel, hlc⟩ := conv_bytes w16 x.c.name
      have HAC := Lib.hid (HA.out.later hbel)
      have HLC := Lib.hid hlc
      clear hbel hlc
      go_wp2_with (at_builtin; refine wpList_append_bytes rfl 24 (.tmp 73) (.tmp 76) rfl Tryz.underlying24 Tryz.infoByteR rfl HAC.out.own (some ⟨w16.heap.size, 0, none⟩) x.c.name.length cc x.c.name rfl rfl HLC.out (by have := HLEN.out; simp [putN_length]; omega) HAC.out.bel.size ?_)
      intro v17 w17 hown hg
      have HA := Lib.hid (HAC.out.step (by decide) hown hg)
      clear hown hg hrun HLC HAC c6
      go_wp2
      go_roundw
      case rel => exact ⟨j + 1, by omega, by go_num, HET, by
        show OwnB 5 w17 w.heap.size v17 _
        rw [HOT.out, ← HPUT.out, putN_one, putN_one, putN_one]
        have := HA.out.own
        simpa [List.append_assoc] using this, HA.out.bel⟩
      case measure => simp [intOf]; omega
    · obtain rfl : j = n := by omega
      rw [List.take_of_length_le (by rw [List.length_map]; exact Nat.le_of_eq HN.out)] at HE HO
      go_wp2
      go_ret2
      exact ⟨_, by rw [HE.out]; rfl, fun _ => HO.out, fun h => absurd HE.out h, HB.out⟩

end Go.Proofs.YtmpgcilppjkhoaaGreatDoor
