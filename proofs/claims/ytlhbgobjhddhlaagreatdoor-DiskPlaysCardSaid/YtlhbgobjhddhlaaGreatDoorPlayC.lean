/- The statement DiskPlays. -/
import Derived.Test.YtlhbgobjhddhlaaGreatDoorPlayD
import Derived.Test.YtlhbgobjhddhlaaGreatDoorSameBytes
import Derived.Deep.CutBlock
import Derived.Test.YtlhbgobjhddhlaaGreatDoorDiskFirst
import Derived.Test.YtlhbgobjhddhlaaGreatDoorRk
namespace Go.Proofs.YtlhbgobjhddhlaaGreatDoor
open Go.RowKit
variable {W w w' : World} {pa : Nat → Addr} {X x : Nat} {q : PS} {R : RS} {s : DS}

theorem Tri.at {z : Nat} {zs : Array Value} (h : Tri W w X x z zs s q R) (k : Nat) {u : Value} (hu : zs[k]? = some u) : w.cell? ⟨z, k, none⟩ = some u := by
  obtain ⟨D, -, -, -, -, hz⟩ := h
  rw [cell_of_row _ _ _ _ _ _ hz]
  exact hu
/-- What a disk is told: Kind, N, M, Name, To, Bytes, Picks. -/
structure DoT where
  kd : Int
  n : Int
  m : Int
  nm : ByteArray
  nt : ByteArray
  bv : Value
  pv : Value
def doV (x : DoT) : List Value := [.int .i64 x.kd, .int .i64 x.n, .int .i64 x.m, .string x.nm, .string x.nt, x.bv, x.pv]
def DoOk (W : World) (x : DoT) : Prop := (-9223372036854775808 ≤ x.n ∧ x.n ≤ 9223372036854775807) ∧ (-9223372036854775808 ≤ x.m ∧ x.m ≤ 9223372036854775807) ∧
  (∃ bs, Bs (fun k => k < W.heap.size) W x.bv bs) ∧ ∃ ps, Is (fun k => k < W.heap.size) W x.pv ps ∧ ∀ k, -9223372036854775808 ≤ ps.getD k 0 ∧ ps.getD k 0 ≤ 9223372036854775807
/-- Behind the switch: what was answered is the same on both sides. -/
def MidP (W : World) (pa : Nat → Addr) (X x z : Nat) (zs : Array Value) (s : DS) (i : Nat) (f bad : Value) (wx : World) : Prop :=
  ∃ (cE : Nat) (q2 : PS) (R2 : RS), f = errV pa cE ∧ bad = .int .i64 (cE : Int) ∧ ErrNo cE ∧ Tri W wx X x z zs s q2 R2 ∧ Rel q2 R2 ∧ R2.Bd (i + 1)
set_option maxRecDepth 100000 in
set_option maxHeartbeats 25600000 in
theorem diskPlays_any (room : Int) (v : Value) (l : List DoT) (W : World) (hroom : -9223372036854775808 ≤ room ∧ room ≤ 9223372036854775807) (hB : Rk 7 doV (fun _ => True) W v l) (hG : ∀ x ∈ l, DoOk W x) (hE : Sent17 W pa) :
    Calls Tryz.prog 3 #[.int .i64 room, v] W fun e w' => e = .returned (.bool true) ∧ Fr (fun _ => False) W w' := by
  have HFI := hid (dfirst_any (w := W) hE.s6)
  obtain ⟨a, c, rfl, hlc, hcm, hn, hk⟩ := hB
  have hm1 : l.length ≤ 9223372036854775807 := Nat.le_trans hlc hcm
  have HK := hid hk; have HG := hid hG; have HE := hid hE; have HRO := hid hroom
  clear hk hlc hcm hn hG hE hroom
  go_enter Tryz.func3, Tryz.ntmps3
  go_wp2_with fail
  refine HFI.out.mono ?_
  rintro e w1 ⟨rfl, hf1⟩
  have HF1 := hid hf1
  clear hf1
  by_cases h60 : 60 < l.length
  · have h60I : (60 : Int) < l.length := by omega
    go_wp2_with fail
    go_ret
    exact ⟨rfl, HF1.out⟩
  have h60I : ¬ (60 : Int) < l.length := by omega
  have HL := hid (show l.length ≤ 60 by omega)
  cases hok : newOk room with
  | false =>
    have HN := hid fun V hF => (new_l (w := V) HE.out.s6 hF room).mono fun _ _ h => h.1 hok
    have HN2 := hid fun V => rnew_no (w := V) room hok HRO.out
    clear hok h60
    go_wp2_with fail
    refine (HN.out w1 HF1.out).mono ?_
    rintro e w2 ⟨rfl, hf2⟩
    have HF2 := hid (HF1.out.trans' hf2)
    clear hf2
    go_wp2_with fail
    refine (HN2.out w2).mono ?_
    rintro e w3 ⟨rfl, rfl⟩
    have his := is_num w2 pa (HE.out.frame HF2.out) 105 (by unfold ErrNo; omega) 105
    rw [show decide (((105 : Nat) : Int) = (105 : Int)) = true from rfl] at his
    have HIS := hid his
    clear his
    go_wp2_with fail
    refine HIS.out.mono ?_
    rintro e w4 ⟨rfl, hf4⟩
    have HF4 := hid (HF2.out.trans' hf4)
    clear hf4
    go_wp2_with fail
    go_ret
    exact ⟨rfl, HF4.out⟩
  | true =>
    have HOK := hid hok
    clear hok h60
    go_wp2_with fail
    refine (new_t HE.out.s6 HF1.out room HOK.out).mono ?_
    rintro e w2 ⟨X, D, rfl, h1, -, hf2⟩
    have HF2 := hid (HF1.out.trans' hf2); have H1 := hid h1
    clear hf2 h1
    go_wp2_with fail
    refine (rnew_ok (base := W.heap.size) (w := w2) room HF2.out.size HOK.out).mono ?_
    rintro e w3 ⟨rfl, h2, hf3⟩
    have HDU := hid (show Duo W w3 X w2.heap.size (PS.new room) (RS.new room) from ⟨D, H1.out.fr hf3, h2⟩)
    have HRL := hid (Rel.new room); have HBD := hid (RS.Bd.new HOK.out)
    generalize w2.heap.size = x at *
    clear h2 hf3 H1 HF2 HF1 HFI
    go_wp2_with fail
    go_loopw [9, 10, 11, 12, 13, 14, 15, 16, 17, 18] (fun iv _ _ _ _ _ _ _ _ _ wr => ∃ (i : Nat) (q : PS) (R : RS), i ≤ l.length ∧ iv = .int .i64 i ∧ Hid (Duo W wr X x q R) ∧ Hid (Rel q R) ∧ Hid (R.Bd i)) (fun iv _ _ _ _ _ _ _ _ _ _ => l.length - (intOf iv).toNat)
    case atStart => exact ⟨0, _, _, Nat.zero_le _, rfl, HDU, HRL, HBD⟩
    case round =>
      clear HDU HRL HBD
      obtain ⟨i, q, R, hi, rfl, HDU, HRL, HBD⟩ := hrel
      by_cases hlt : i < l.length
      · have hltI : (i : Int) < l.length := by omega
        have HLT := hid hlt
        obtain ⟨⟨kd, n, m, nm, nt, bv, pv⟩, hx⟩ : ∃ x, l[i]? = some x := ⟨_, List.getElem?_eq_getElem hlt⟩
        obtain ⟨b0, o0, rfl, -, hcc⟩ := HK.out i _ hx
        obtain ⟨hn, hm, ⟨bs, hbs⟩, ps, hps, hpr⟩ := HG.out _ (List.mem_of_getElem? hx)
        dsimp only at hn hm hbs hps
        have HF := hid HDU.out.f
        have c0 := HF.out.cell (hcc 0 (.int .i64 kd) rfl) not_false
        have c1 := HF.out.cell (hcc 1 (.int .i64 n) rfl) not_false
        have c2 := HF.out.cell (hcc 2 (.int .i64 m) rfl) not_false
        have c3 := HF.out.cell (hcc 3 (.string nm) rfl) not_false
        have c4 := HF.out.cell (hcc 4 (.string nt) rfl) not_false
        have c5 := HF.out.cell (hcc 5 bv rfl) not_false
        have c6 := HF.out.cell (hcc 6 pv rfl) not_false
        rw [Nat.add_zero] at c0
        have hb0 := World.block_lt_of_cell? wr _ c0
        dsimp only at hb0
        obtain ⟨ab, cb, rfl, -⟩ := id hbs
        obtain ⟨ap, cp, rfl, -⟩ := id hps
        have HBS := hid hbs; have HPS := hid hps; have HPR := hid hpr; have HN := hid hn; have HM := hid hm
        clear hcc hx hbs hps hpr hn hm hlt hi
        go_upto_region 16 with fail
        have hfa := (Fr.refl (fun _ => False) wr).alloc (.cells #[.int .i64 kd, .int .i64 n, .int .i64 m, .string nm, .string nt, .slice ab bs.length cb, .slice ap ps.length cp] 35)
        have hza := heap_alloc_new wr (.cells #[.int .i64 kd, .int .i64 n, .int .i64 m, .string nm, .string nt, .slice ab bs.length cb, .slice ap ps.length cp] 35)
        have hdu := HDU.out.fr hfa
        have hFa := HF.out.trans' hfa
        clear c0 c1 c2 c3 c4 c5 c6 hb0 hfa HF HDU
        generalize wr.alloc (.cells #[.int .i64 kd, .int .i64 n, .int .i64 m, .string nm, .string nt, .slice ab bs.length cb, .slice ap ps.length cp] 35) = wa at *
        generalize wr.heap.size = z at *
        have HZA := hid hza; have HDU := hid hdu; have HFA := hid hFa
        have d3 : wa.cell? ⟨z, 3, none⟩ = some (.string nm) := by rw [cell_of_row _ _ _ _ _ _ hza]; rfl
        have d4 : wa.cell? ⟨z, 4, none⟩ = some (.string nt) := by rw [cell_of_row _ _ _ _ _ _ hza]; rfl
        have d5 : wa.cell? ⟨z, 5, none⟩ = some (.slice ab bs.length cb) := by rw [cell_of_row _ _ _ _ _ _ hza]; rfl
        have d6 : wa.cell? ⟨z, 6, none⟩ = some (.slice ap ps.length cp) := by rw [cell_of_row _ _ _ _ _ _ hza]; rfl
        clear hza hdu hFa
        by_cases k1 : 200 < bs.length
        · have k1I : (200 : Int) < bs.length := by omega
          go_wp2_with fail
          go_ret
          exact ⟨rfl, HFA.out⟩
        have k1I : ¬ (200 : Int) < bs.length := by omega
        by_cases k2 : 20 < ps.length
        · have k2I : (20 : Int) < ps.length := by omega
          go_wp2_with fail
          go_ret
          exact ⟨rfl, HFA.out⟩
        have k2I : ¬ (20 : Int) < ps.length := by omega
        by_cases k3 : 100 < nm.size
        · have k3I : (100 : Int) < nm.size := by omega
          go_wp2_with fail
          go_ret
          exact ⟨rfl, HFA.out⟩
        have k3I : ¬ (100 : Int) < nm.size := by omega
        by_cases k4 : 100 < nt.size
        · have k4I : (100 : Int) < nt.size := by omega
          go_wp2_with fail
          go_ret
          exact ⟨rfl, HFA.out⟩
        have k4I : ¬ (100 : Int) < nt.size := by omega
        have HB4 := hid (show bs.length ≤ 200 ∧ ps.length ≤ 20 ∧ nm.size ≤ 100 ∧ nt.size ≤ 100 by omega)
        go_wp2_with fail
        have hqc : q.calls ≤ 1000 := by have h1 := HBD.out.cl.1; have h2 := HRL.out.calls; have := HLT.out; have := HL.out; omega
        have hqf : q.files ≤ 1000 := by have h1 := HBD.out.fb.1; have h2 := HRL.out.files; have := HLT.out; have := HL.out; omega
        have HQ := hid (And.intro hqc hqf)
        clear hqc hqf k1 k2 k3 k4 k1I k2I k3I k4I d3 d4 d5 d6
        refine (tri_clone HDU.out HZA.out (by have := HQ.out; omega)).mono ?_
        rintro e wb ⟨s, rfl, hsc, ht⟩
        have HT0 := hid ht; have HSC := hid hsc
        clear ht hsc HDU HZA HFA
        go_wp2_with fail
        refine (tri_used HT0.out HSC.out).mono ?_
        rintro e wc ⟨rfl, ht⟩
        have HT := hid ht
        clear ht HT0
        obtain ⟨us, hus⟩ : ∃ us, (Go.Proofs.YtlhbgobjhddhlaaGreatDoor.ps s).used = us := ⟨_, rfl⟩
        have HUS := hid hus
        have HOK := hid (HBD.out.ok (by have := HLT.out; have := HL.out; omega))
        have d0 : wc.cell? ⟨z, 0, none⟩ = some (.int .i64 kd) := HT.out.at 0 rfl
        clear hus
        obtain ⟨wq, hwq⟩ : ∃ V, V = wc := ⟨wc, rfl⟩
        rw [← hwq] at HT d0 ⊢
        clear hwq
        go_upto_block 2 with fail
        clear d0
        go_cut [13, 14, 15, 16, 17, 18] from 89 to 218 (fun f bad p q' g wo wx => MidP W pa X x z #[.int .i64 kd, .int .i64 n, .int .i64 m, .string nm, .string nt, .slice ab bs.length cb, .slice ap ps.length cp] s i f bad wx)
        case first =>
          by_cases e1 : kd = 1
          · subst e1
            have d3 : wq.cell? ⟨z, 3, none⟩ = some (.string nm) := HT.out.at 3 rfl
            go_wp2_with fail
            refine (tri_create HT.out HE.out.s6 (by have := HB4.out; omega) (by have := HQ.out; omega)).mono ?_
            rintro e wd ⟨rfl, ht⟩
            have HT1 := hid ht
            clear ht d3
            have d3 : wd.cell? ⟨z, 3, none⟩ = some (.string nm) := HT1.out.at 3 rfl
            go_wp2_with fail
            refine (tri_rcreate HT1.out HOK.out (by have := HB4.out; omega)).mono ?_
            rintro e wE ⟨rfl, ht⟩
            have hcc := HRL.out.createC (nm := nm)
            rw [hcc]
            have HT2 := hid ht; have HR2 := hid (HRL.out.create (nm := nm)); have HB2 := hid (HBD.out.create (nm := nm)); have HCE := hid (createE_no q nm)
            clear ht hcc HT1 HOK d3
            generalize q.createE nm = cE at *
            generalize q.createQ nm = q2 at *
            generalize R.createS nm = R2 at *
            go_wp2_with fail
            go_meet
            exact ⟨cE, _, _, rfl, rfl, HCE.out, HT2.out, HR2.out, HB2.out⟩
          by_cases e2 : kd = 2
          · subst e2
            have d3 : wq.cell? ⟨z, 3, none⟩ = some (.string nm) := HT.out.at 3 rfl
            have d5 : wq.cell? ⟨z, 5, none⟩ = some (.slice ab bs.length cb) := HT.out.at 5 rfl
            go_wp2_with fail
            refine (tri_append HT.out HE.out.s6 (by have := HB4.out; omega) _ bs HBS.out (by have := HB4.out; omega) (by have := HQ.out; omega)).mono ?_
            rintro e wd ⟨rfl, ht⟩
            have HT1 := hid ht
            clear ht d3 d5
            have d3 : wd.cell? ⟨z, 3, none⟩ = some (.string nm) := HT1.out.at 3 rfl
            have d5 : wd.cell? ⟨z, 5, none⟩ = some (.slice ab bs.length cb) := HT1.out.at 5 rfl
            go_wp2_with fail
            refine (tri_rappend HT1.out HOK.out (by have := HB4.out; omega) _ bs HBS.out (by have := HB4.out; omega)).mono ?_
            rintro e wE ⟨rfl, ht⟩
            have hcc := HRL.out.appC (nm := nm) bs
            rw [hcc]
            have HT2 := hid ht; have HR2 := hid (HRL.out.app (nm := nm) bs); have HB2 := hid (HBD.out.app (nm := nm) (m := bs) HB4.out.1); have HCE := hid (appE_no q nm bs)
            clear ht hcc HT1 HOK d3 d5
            generalize q.appE nm bs = cE at *
            generalize q.appQ nm bs = q2 at *
            generalize R.appS nm bs = R2 at *
            go_wp2_with fail
            go_meet
            exact ⟨cE, _, _, rfl, rfl, HCE.out, HT2.out, HR2.out, HB2.out⟩
          by_cases e3 : kd = 3
          · subst e3
            have d3 : wq.cell? ⟨z, 3, none⟩ = some (.string nm) := HT.out.at 3 rfl
            have d1 : wq.cell? ⟨z, 1, none⟩ = some (.int .i64 n) := HT.out.at 1 rfl
            go_wp2_with fail
            refine (tri_cut HT.out HE.out.s6 (by have := HB4.out; omega) n HN.out (by have := HQ.out; omega)).mono ?_
            rintro e wd ⟨rfl, ht⟩
            have HT1 := hid ht
            clear ht d3 d1
            have d3 : wd.cell? ⟨z, 3, none⟩ = some (.string nm) := HT1.out.at 3 rfl
            have d1 : wd.cell? ⟨z, 1, none⟩ = some (.int .i64 n) := HT1.out.at 1 rfl
            go_wp2_with fail
            refine (tri_rcut HT1.out HOK.out (by have := HB4.out; omega) n HN.out).mono ?_
            rintro e wE ⟨rfl, ht⟩
            have hcc := HRL.out.cutC (nm := nm) n
            rw [hcc]
            have HT2 := hid ht; have HR2 := hid (HRL.out.cut (nm := nm) n); have HB2 := hid (HBD.out.cut (nm := nm) (n := n)); have HCE := hid (cutE_no q nm n)
            clear ht hcc HT1 HOK d3 d1
            generalize q.cutE nm n = cE at *
            generalize q.cutQ nm n = q2 at *
            generalize R.cutS nm n = R2 at *
            go_wp2_with fail
            go_meet
            exact ⟨cE, _, _, rfl, rfl, HCE.out, HT2.out, HR2.out, HB2.out⟩
          by_cases e4 : kd = 4
          · subst e4
            have d3 : wq.cell? ⟨z, 3, none⟩ = some (.string nm) := HT.out.at 3 rfl
            go_wp2_with fail
            refine (tri_sync HT.out HE.out.s6 (by have := HB4.out; omega) (by have := HQ.out; omega)).mono ?_
            rintro e wd ⟨rfl, ht⟩
            have HT1 := hid ht
            clear ht d3
            have d3 : wd.cell? ⟨z, 3, none⟩ = some (.string nm) := HT1.out.at 3 rfl
            go_wp2_with fail
            refine (tri_rsync HT1.out HOK.out (by have := HB4.out; omega)).mono ?_
            rintro e wE ⟨rfl, ht⟩
            have hcc := HRL.out.findC (nm := nm)
            rw [hcc]
            have HT2 := hid ht; have HR2 := hid (HRL.out.sync (nm := nm)); have HB2 := hid (HBD.out.sync (nm := nm)); have HCE := hid (findE_no q nm)
            clear ht hcc HT1 HOK d3
            generalize q.findE nm = cE at *
            generalize q.syncQ nm = q2 at *
            generalize R.syncS nm = R2 at *
            go_wp2_with fail
            go_meet
            exact ⟨cE, _, _, rfl, rfl, HCE.out, HT2.out, HR2.out, HB2.out⟩
          by_cases e5 : kd = 5
          · subst e5
            have d3 : wq.cell? ⟨z, 3, none⟩ = some (.string nm) := HT.out.at 3 rfl
            have d4 : wq.cell? ⟨z, 4, none⟩ = some (.string nt) := HT.out.at 4 rfl
            go_wp2_with fail
            refine (tri_rename HT.out HE.out.s6 (by have := HB4.out; omega) (by have := HB4.out; omega) (by have := HQ.out; omega)).mono ?_
            rintro e wd ⟨rfl, ht⟩
            have HT1 := hid ht
            clear ht d3 d4
            have d3 : wd.cell? ⟨z, 3, none⟩ = some (.string nm) := HT1.out.at 3 rfl
            have d4 : wd.cell? ⟨z, 4, none⟩ = some (.string nt) := HT1.out.at 4 rfl
            go_wp2_with fail
            refine (tri_rrename HT1.out HOK.out (by have := HB4.out; omega) (by have := HB4.out; omega)).mono ?_
            rintro e wE ⟨rfl, ht⟩
            have hcc := HRL.out.renC (nm := nm) (nt := nt)
            rw [hcc]
            have HT2 := hid ht; have HR2 := hid (HRL.out.ren (nm := nm) (nt := nt)); have HB2 := hid (HBD.out.ren (nm := nm) (nt := nt)); have HCE := hid (renE_no q nm nt)
            clear ht hcc HT1 HOK d3 d4
            generalize q.renE nm nt = cE at *
            generalize q.renQ nm nt = q2 at *
            generalize R.renS nm nt = R2 at *
            go_wp2_with fail
            go_meet
            exact ⟨cE, _, _, rfl, rfl, HCE.out, HT2.out, HR2.out, HB2.out⟩
          by_cases e6 : kd = 6
          · subst e6
            have d3 : wq.cell? ⟨z, 3, none⟩ = some (.string nm) := HT.out.at 3 rfl
            go_wp2_with fail
            refine (tri_remove HT.out HE.out.s6 (by have := HB4.out; omega) (by have := HQ.out; omega)).mono ?_
            rintro e wd ⟨rfl, ht⟩
            have HT1 := hid ht
            clear ht d3
            have d3 : wd.cell? ⟨z, 3, none⟩ = some (.string nm) := HT1.out.at 3 rfl
            go_wp2_with fail
            refine (tri_rremove HT1.out HOK.out (by have := HB4.out; omega)).mono ?_
            rintro e wE ⟨rfl, ht⟩
            have hcc := HRL.out.findC (nm := nm)
            rw [hcc]
            have HT2 := hid ht; have HR2 := hid (HRL.out.rem (nm := nm)); have HB2 := hid (HBD.out.rem (nm := nm)); have HCE := hid (findE_no q nm)
            clear ht hcc HT1 HOK d3
            generalize q.findE nm = cE at *
            generalize q.remQ nm = q2 at *
            generalize R.remS nm = R2 at *
            go_wp2_with fail
            go_meet
            exact ⟨cE, _, _, rfl, rfl, HCE.out, HT2.out, HR2.out, HB2.out⟩
          by_cases e7 : kd = 7
          · subst e7
            go_wp2_with fail
            refine (tri_syncdir HT.out HE.out.s6 (by have := HQ.out; omega)).mono ?_
            rintro e wd ⟨rfl, ht⟩
            have HT1 := hid ht
            clear ht 
            go_wp2_with fail
            refine (tri_rsyncdir HT1.out HOK.out).mono ?_
            rintro e wE ⟨rfl, ht⟩
            have hcc := HRL.out.dirC
            rw [hcc]
            have HT2 := hid ht; have HR2 := hid (HRL.out.dir); have HB2 := hid (HBD.out.dir); have HCE := hid (begE_no q)
            clear ht hcc HT1 HOK
            generalize q.begE = cE at *
            generalize q.dirQ = q2 at *
            generalize R.dirS = R2 at *
            go_wp2_with fail
            go_meet
            exact ⟨cE, _, _, rfl, rfl, HCE.out, HT2.out, HR2.out, HB2.out⟩
          by_cases e8 : kd = 8
          · subst e8
            have d1 : wq.cell? ⟨z, 1, none⟩ = some (.int .i64 n) := HT.out.at 1 rfl
            go_wp2_with fail
            refine (tri_arm HT.out n HN.out.2).mono ?_
            rintro e wd ⟨rfl, ht⟩
            have HT1 := hid ht
            clear ht d1
            have d1 : wd.cell? ⟨z, 1, none⟩ = some (.int .i64 n) := HT1.out.at 1 rfl
            go_wp2_with fail
            refine (tri_rarm HT1.out n HN.out.2).mono ?_
            rintro e wE ⟨rfl, ht⟩
            have HT2 := hid ht; have HR2 := hid (HRL.out.arm n); have HB2 := hid (HBD.out.arm (n := n) HN.out.2)
            clear ht HT1 HOK d1
            generalize q.arm n = q2 at *
            generalize R.arm n = R2 at *
            go_wp2_with fail
            go_meet
            exact ⟨0, _, _, rfl, rfl, (Or.inl rfl), HT2.out, HR2.out, HB2.out⟩
          by_cases e9 : kd = 9
          · subst e9
            have d6 : wq.cell? ⟨z, 6, none⟩ = some (.slice ap ps.length cp) := HT.out.at 6 rfl
            go_wp2_with fail
            refine (tri_crash HT.out HRL.out (by have := HQ.out; omega) _ ps HPS.out HPR.out (by have := HB4.out; omega)).mono ?_
            rintro e wd ⟨rfl, q2, hr2, ht⟩
            have HT1 := hid ht; have HR2 := hid hr2
            clear ht hr2 d6
            have d6 : wd.cell? ⟨z, 6, none⟩ = some (.slice ap ps.length cp) := HT1.out.at 6 rfl
            go_wp2_with fail
            refine (tri_rcrash HT1.out HOK.out _ ps HPS.out HPR.out (by have := HB4.out; omega)).mono ?_
            rintro e wE ⟨rfl, ht⟩
            have HT2 := hid ht; have HB2 := hid (HBD.out.crash ps)
            clear ht HT1 HOK d6
            generalize R.crashS ps = R2 at *
            go_wp2_with fail
            go_meet
            exact ⟨0, _, _, rfl, rfl, (Or.inl rfl), HT2.out, HR2.out, HB2.out⟩
          have d3 : wq.cell? ⟨z, 3, none⟩ = some (.string nm) := HT.out.at 3 rfl
          have d1 : wq.cell? ⟨z, 1, none⟩ = some (.int .i64 n) := HT.out.at 1 rfl
          have d2 : wq.cell? ⟨z, 2, none⟩ = some (.int .i64 m) := HT.out.at 2 rfl
          go_wp2_with fail
          refine (tri_read HT.out HE.out.s6 (by have := HB4.out; omega) n m HN.out HM.out).mono ?_
          rintro e wd ⟨ht, v, rfl, hv⟩
          obtain ⟨L, hLd⟩ : ∃ L, (if q.readE nm n m = 0 then q.readB nm n m else []) = L := ⟨_, rfl⟩
          obtain ⟨cE, hcd⟩ : ∃ c, q.readE nm n m = c := ⟨_, rfl⟩
          have hcE : ErrNo cE := by rw [← hcd]; exact readE_no q nm n m
          rw [hLd] at hv
          rw [hcd]
          obtain ⟨av, cv, rfl, -⟩ := id hv
          have HT1 := hid ht; have HV := hid hv; have HLD := hid hLd; have HCD := hid hcd; have HCE := hid hcE
          clear ht hv d1 d2 d3 hLd hcd hcE
          have d3 : wd.cell? ⟨z, 3, none⟩ = some (.string nm) := HT1.out.at 3 rfl
          have d1 : wd.cell? ⟨z, 1, none⟩ = some (.int .i64 n) := HT1.out.at 1 rfl
          have d2 : wd.cell? ⟨z, 2, none⟩ = some (.int .i64 m) := HT1.out.at 2 rfl
          go_wp2_with fail
          refine (tri_rread HT1.out HOK.out n m HN.out HM.out).mono ?_
          rintro e wE ⟨ht, hf, u, rfl, hu⟩
          have hrd := HRL.out.read (nm := nm) n m
          have hL : (if R.readC nm n m = 0 then List.drop n.toNat (List.take (n + m).toNat (R.fl nm).1) else []) = L := by
            rw [← HLD.out, hrd.1]
            by_cases h0 : q.readE nm n m = 0
            · rw [if_pos h0, if_pos h0]; exact hrd.2 h0
            · rw [if_neg h0, if_neg h0]
          rw [hL] at hu
          rw [hrd.1, HCD.out]
          obtain ⟨au, cu, rfl, -⟩ := id hu
          have hsb := sameBytes_any _ _ _ _ L L wE (HV.out.frame hf fun _ _ => id) hu
          rw [decide_eq_true rfl] at hsb
          have HSB := hid hsb; have HT2 := hid ht
          clear ht hf hu hrd hL hsb HT1 HOK d1 d2 d3 HV
          go_wp2_with fail
          refine HSB.out.mono ?_
          rintro e wE1 ⟨rfl, nq, hq⟩
          have HT2a := hid (HT2.out.fr (show Fr (fun _ => False) wE wE1 by rw [← hq]; exact (Fr.refl _ _).drewN nq))
          clear hq HSB HT2
          have his := is_num wE1 pa (HE.out.frame HT2a.out.f) cE HCE.out (cE : Int)
          rw [decide_eq_true rfl] at his
          have HIS := hid his
          clear his
          go_wp2_with fail
          refine HIS.out.mono ?_
          rintro e wE2 ⟨rfl, hff⟩
          have HT2 := hid (HT2a.out.fr hff); have HR2 := hid HRL.out; have HB2 := hid (HBD.out.mono (Nat.le_succ i))
          clear hff HIS HT2a
          go_wp2_with fail
          go_meet
          exact ⟨0, _, _, rfl, rfl, (Or.inl rfl), HT2.out, HR2.out, HB2.out⟩
        case rest =>
        obtain ⟨cE, q2, R2, rfl, rfl, hce, ht2, hr2, hb2⟩ := hcut
        obtain ⟨wE, hwE⟩ : ∃ V, V = wc := ⟨wc, rfl⟩
        rw [← hwE] at ht2 ⊢
        have HT2 := hid ht2; have HR2 := hid hr2; have HB2 := hid hb2
        have his := is_num wE pa (HE.out.frame HT2.out.f) cE hce (cE : Int)
        rw [decide_eq_true rfl] at his
        have HIS := hid his
        clear his hce ht2 hr2 hb2 hwE
        go_wp2_with fail
        refine HIS.out.mono ?_
        rintro e wf ⟨rfl, hff⟩
        have HT3 := hid (HT2.out.fr hff)
        clear hff HIS HT2
        go_wp2_with fail
        refine (tri_used HT3.out HSC.out).mono ?_
        rintro e wg ⟨rfl, ht⟩
        have HT4 := hid ht
        rw [HUS.out]
        clear ht HT3
        have d3 : wg.cell? ⟨z, 3, none⟩ = some (.string nm) := HT4.out.at 3 rfl
        go_wp2_with fail
        refine (same_any HT4.out.duo HE.out HR2.out (HB2.out.ok (by have := HLT.out; have := HL.out; omega)) (by have := HB4.out; omega)).mono ?_
        rintro e wh ⟨rfl, hfh⟩
        have HDU2 := hid (HT4.out.duo.fr hfh)
        clear hfh HT4 d3
        go_wp2_with fail
        go_roundw
        case rel => exact ⟨i + 1, _, _, by have := HLT.out; omega, by go_num, HDU2, HR2, HB2⟩
        case measure => simp [intOf]; have := HLT.out; omega
      · have hltI : ¬ (i : Int) < l.length := by omega
        go_wp2_with fail
        go_ret
        exact ⟨rfl, HDU.out.f⟩
end Go.Proofs.YtlhbgobjhddhlaaGreatDoor
