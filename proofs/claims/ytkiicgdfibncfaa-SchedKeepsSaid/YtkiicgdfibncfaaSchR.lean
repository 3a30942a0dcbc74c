/- The reference's Weave. -/
import Derived.Test.YtkiicgdfibncfaaSchL
namespace Go.Proofs.Ytkiicgdfibncfaa
open Go.RowKit

def nv (n : Nat) : Value := .int .i64 (n : Int)
theorem info_int : (Try.prog.info? 3).map (fun i => (i.zero, i.size, i.bytes)) = some (some (.int .i64 0), 1, 8) := by kernel_rfl
theorem one_nv (n : Nat) : ∀ u ∈ [nv n], u.oneCell' = true := by
  intro u hu; simp at hu; subst hu; rfl
theorem reads_nv (w : World) (t : TypeId) (u : Value) (n : Nat) (hn : n = w.heap.size) : Reads (w.alloc (.cells #[u] t)) (n + 1) 1 (some ⟨n, 0, none⟩) 1 [u] := by
  subst hn
  refine ⟨rfl, fun _ => ⟨_, rfl, Nat.lt_succ_self _, fun j v hj => ?_⟩⟩
  have hb := Blkf.new_at w t (0, 0) #[u] rfl
  match j, hj with
  | 0, hj => exact (hb.cell 0).trans hj
  | j + 1, hj => simp at hj
theorem reads_form {w : World} {B m : Nat} {A : Option Addr} {vs : List Value} (h : Reads w B 1 A m vs) (hm : 0 < m) : ∃ b o, A = some ⟨b, o, none⟩ ∧ b < B ∧ b < w.heap.size ∧ ∀ i, i < m → w.cell? ⟨b, o + i, none⟩ = vs[i]? := by
  obtain ⟨ad, rfl, hb, hc⟩ := h.2 hm
  have hl : vs.length = m := by have := h.1; omega
  obtain ⟨b, o, spot⟩ := ad
  have h0 := hc 0 _ (List.getElem?_eq_getElem (by omega))
  have hspot : spot = none := by simpa [Addr.add] using World.cell?_spot h0
  subst hspot
  have e : ∀ k, (⟨b, o, none⟩ : Addr).add k = ⟨b, o + k, none⟩ := fun k => by unfold Addr.add; split <;> simp_all
  rw [e] at h0
  refine ⟨b, o, rfl, hb, World.block_lt_of_cell? _ _ h0, fun i hi => ?_⟩
  have := hc i _ (List.getElem?_eq_getElem (by omega))
  rw [e] at this
  rw [this, List.getElem?_eq_getElem (by omega)]
theorem sub_le_tot : ∀ (r : List (List A3)) (k : Nat), (subs r k).length ≤ tot (lens r)
  | [], k => by simp [subs]
  | a :: r, 0 => by simp [subs, lens, tot]
  | a :: r, k + 1 => by
    have := sub_le_tot r k
    have e : subs (a :: r) (k + 1) = subs r k := rfl
    rw [e]
    simp only [lens, List.map_cons, tot] at this ⊢
    omega
theorem row_sliceS3 {w : World} {base s n : Nat} {e : TypeId} {v : Value} {xs : List Value} (h : w.ownsRow base e s v n xs) : ∃ A c, v = .slice A n c := by
  rcases h.2 with ⟨rfl, rfl⟩ | ⟨g, cap, _, rfl, _⟩
  · exact ⟨_, _, rfl⟩
  · exact ⟨_, _, rfl⟩
def lenOf : Value → Nat
  | .slice _ n _ => n
  | _ => 0
def RW (W : World) (m : Nat) (Ls : List (List A3)) (all : List A3) (v : Value) (wr : World) : Prop :=
  ∃ nx s out, nx.length = m ∧ (∀ i, i < m → nx.getD i 0 ≤ (subs Ls i).length) ∧ out ++ weave (tot (lens (remL Ls nx))) (remL Ls nx) s = all ∧ OwnA W.heap.size wr v out ∧
    wr.ownsRow W.heap.size 3 1 (.slice (some ⟨W.heap.size + 1, 0, none⟩) m m) m (nx.map nv) ∧ Blk wr W.heap.size 29 #[.int .u64 s] ∧ Keeps (fun g => W.heap.size ≤ g) W wr
def OfRel (base : Nat) (wr : World) (L : List Nat) (v : Value) (w : World) : Prop := w.ownsRow base 3 1 v L.length (L.map nv) ∧ Keeps (fun g => base ≤ g) wr w
theorem of_step {base : Nat} {wr w w' : World} {L : List Nat} {v v' : Value} {j : Nat} {o : Obj} (h : OfRel base wr L v w) (hb : base ≤ w.heap.size) (hown : w'.ownsRow base 3 1 v' (L.length + 1) (L.map nv ++ [nv j])) (hg : (w.alloc o).grownBy w' v.ownBlock) : OfRel base wr (L ++ [j]) v' w' := by
  refine ⟨by simpa using hown, (h.2.alloc o).grown hg (fun g hg => .inl (h.1.lt g hg).1)⟩
set_option maxHeartbeats 8000000 in
theorem rweave_any (seed : Int) (v : Value) (Ls : List (List A3)) (W : World) (h : RdLL W.heap.size W v Ls) (hm : Ls.length ≤ 100) (hN : tot (lens Ls) ≤ 100000) :
    Calls Try.prog 20 #[.int .u64 seed, v] W fun e w' => ∃ v, e = .returned v ∧ OwnA W.heap.size w' v (weave (tot (lens Ls)) Ls seed) ∧ Below W.heap.size W w' := by
  obtain ⟨A, c, vs, rfl, hR, hV⟩ := h
  obtain ⟨i0, hi0, hz0, hz1, hz2⟩ := info_parts info_act
  obtain ⟨j0, hj0, hy0, hy1, hy2⟩ := info_parts info_int
  have HR := Lib.hid hR
  have HV := Lib.hid hV
  obtain ⟨m, hmm⟩ : ∃ m, m = Ls.length := ⟨_, rfl⟩
  have HM := Lib.hid hmm
  rw [← hmm] at hm HR ⊢
  have HWL := Lib.hid (fun s => weave_len (tot (lens Ls)) Ls s rfl)
  have hmk : ∀ W, (Instr.makeSlice 23 (.int .i64 (m : Int)) (.int .i64 (m : Int))).run Try.prog W = .ok (.slice (some ⟨W.heap.size, 0, none⟩) m m) (W.alloc (.cells (madeCells #[Value.int .i64 0] m) 3)) := fun W => by
    have h := run_make (P := Try.prog) W 23 3 j0 _ Try.underlying23 hj0 hy0 .i64 .i64 (m : Int) (m : Int) (by omega) (by omega) (by rw [hy2]; omega) (by omega)
    rw [hy1] at h
    simpa [Value.cells] using h
  have HMC : Hid (∀ (w : World) (base : Nat), base ≤ w.heap.size → (w.alloc (.cells (madeCells #[Value.int .i64 0] m) 3)).ownsRow base 3 1 (.slice (some ⟨w.heap.size, 0, none⟩) m m) m ((List.replicate m 0).map nv)) := Lib.hid (fun w base hb => by
    have hml := toList_madeCells_one (Value.int .i64 0) m
    have hms : (madeCells #[Value.int .i64 0] m).size = m := by rw [← Array.length_toList, hml]; simp
    exact ⟨by simp, .inr ⟨_, _, _, rfl, hb, heap_alloc_new w _, Nat.le_refl _, by unfold maxLen; omega, by rw [hms]; omega, by rw [hml]; simp [nv]⟩⟩)
  have HRZ : Hid (remL Ls (List.replicate m 0) = Ls) := Lib.hid (by rw [hmm]; exact remL_zero Ls)
  generalize hall : weave (tot (lens Ls)) Ls seed = all at *
  have HALL := Lib.hid hall
  generalize hNN : tot (lens Ls) = N at *
  have HNN := Lib.hid hNN
  clear hR hV hmm hall hNN
  go_enter Try.func20, Try.ntmps20
  go_wp2_with fail
  go_loopw [7] (fun v wr => RW W m Ls all v wr) (fun v _ => N - lenOf v)
  case atStart =>
    refine ⟨List.replicate m 0, seed, [], by simp, fun i hi => ?_, ?_, World.ownsRow_nil _ _ _ _, ?_, (Blkf.new_at W _ _ _ rfl).alloc _, ((Keeps.refl _ W).alloc _).alloc _⟩
    · rw [List.getD_eq_getElem?_getD, List.getElem?_replicate, if_pos hi]; exact Nat.zero_le _
    · rw [HRZ.out, HNN.out, List.nil_append]; exact HALL.out
    · have := HMC.out (W.alloc (.cells #[.int .u64 seed] 29)) W.heap.size (by simp)
      simpa using this
  case round =>
    rename World => w0
    obtain ⟨nx, s, out, hnl, hnx, hout, hO, hRow, hB, hK⟩ := hrel
    obtain ⟨A3, c3, rfl, _⟩ := hO.rd
    have HNX := Lib.hid hnx
    have HNL := Lib.hid hnl
    have HOut := Lib.hid hout
    have HO := Lib.hid hO
    have HRow := Lib.hid hRow
    have HB := Lib.hid hB
    have HK := Lib.hid hK
    have hsz : W.heap.size + 1 < w0.heap.size := (hRow.lt _ rfl).2
    have HRL : Hid ((remL Ls nx).length = m) := Lib.hid (by rw [remL_length, HM.out])
    obtain ⟨rem, hrem⟩ : ∃ r, r = remL Ls nx := ⟨_, rfl⟩
    rw [← hrem] at HOut HRL
    have HREM := Lib.hid hrem
    have HSUB : Hid (∀ i, i < m → subs rem i = (subs Ls i).drop (nx.getD i 0)) := Lib.hid (fun i hi => by rw [hrem]; exact remL_subs Ls nx i (by rw [← HM.out]; exact hi))
    have HTL : Hid (out.length + tot (lens rem) = N) := Lib.hid (by
      have h1 := congrArg List.length HOut.out
      rw [List.length_append, weave_len _ _ _ rfl, ← HALL.out, HWL.out] at h1
      exact h1)
    have hll : out.length ≤ 100000 := by have := HTL.out; omega
    clear hnx hout hO hRow hB hK hrem hnl
    go_wp2_with fail
    go_loopw [8, 21] (fun f j w => ∃ k L, k ≤ m ∧ j = .int .i64 (k : Int) ∧ L ++ ofR ((lens rem).drop k) k = ofR (lens rem) 0 ∧ OfRel w0.heap.size w0 L f w) (fun _ j _ => m - (intOf j).toNat)
    case atStart => exact ⟨0, [], by omega, rfl, rfl, World.ownsRow_nil _ _ _ _, Keeps.refl _ _⟩
    case round =>
      obtain ⟨k, L, hk, rfl, hL, hF⟩ := hrel
      have HL := Lib.hid hL
      have HF := Lib.hid hF
      obtain ⟨FA, fc, rfl⟩ := row_slice1 hF.1
      have HLL : Hid (L.length + tot ((lens rem).drop k) = tot (lens rem)) := Lib.hid (by
        have h1 := congrArg List.length HL.out
        rw [List.length_append, ofR_len, ofR_len] at h1
        exact h1)
      have hLlen : L.length ≤ 100000 := by have := HLL.out; have := HTL.out; omega
      have hswr : w0.heap.size ≤ wr.heap.size := hF.2.size
      clear hL hF
      have HRow1 := Lib.hid (HF.out.2.row HRow.out (fun g hg h1 => by have := (HRow.out.lt g hg).2; omega))
      by_cases hkm : k < m
      · obtain ⟨b, o, rfl, hbB, hbl, hvs⟩ := reads_form HR.out (by omega)
        obtain ⟨u, hu, hrd⟩ := HV.out.2 k (by rw [← HM.out]; exact hkm)
        obtain ⟨UA, uc, rfl⟩ := rda_one hrd
        have hcell : wr.cell? ⟨b, o + k, none⟩ = some (.slice UA (subs Ls k).length uc) := by
          have e1 : wr.cell? ⟨b, o + k, none⟩ = w0.cell? ⟨b, o + k, none⟩ := World.cell?_of_block (a := ⟨b, o + k, none⟩) (HF.out.2.block b (by omega) (by omega))
          have e2 : w0.cell? ⟨b, o + k, none⟩ = W.cell? ⟨b, o + k, none⟩ := World.cell?_of_block (a := ⟨b, o + k, none⟩) (HK.out.block b hbl (by omega))
          rw [e1, e2, hvs k hkm]
          exact hu
        have hcell2 : wr.cell? ⟨W.heap.size + 1, k, none⟩ = some (.int .i64 ((nx.getD k 0 : Nat) : Int)) := by
          rw [HRow1.out.cellAt k (by omega), List.getElem?_map, List.getElem?_eq_getElem (by rw [HNL.out]; exact hkm), List.getD_eq_getElem?_getD, List.getElem?_eq_getElem (by rw [HNL.out]; exact hkm)]
          rfl
        have hb1 : b < wr.heap.size := by omega
        have hb2 : W.heap.size + 1 < wr.heap.size := by omega
        have hle := HNX.out k hkm
        have hkl : k < (lens rem).length := by rw [lens_length, HRL.out]; exact hkm
        have hdr := ofR_drop (lens rem) k hkl
        have htd := tot_drop (lens rem) k hkl
        rw [lens_getD, HSUB.out k hkm, List.length_drop] at hdr htd
        have HDR := Lib.hid hdr
        have htl : tot (lens rem) ≤ 100000 := by have := HTL.out; omega
        have hln : (subs Ls k).length ≤ 100000 := by have h1 := sub_le_tot Ls k; rw [HNN.out] at h1; omega
        have hlnM : Hid (L.length + ((subs Ls k).length - nx.getD k 0) ≤ 100000) := Lib.hid (by have := HLL.out; omega)
        clear hvs hu hrd hdr htd
        generalize nx.getD k 0 = p0 at *
        generalize (subs Ls k).length = ln at *
        rename World => w1
        go_wp2_with fail
        go_loopw [8, 11] (fun f q w => ∃ p L', p0 ≤ p ∧ p ≤ ln ∧ q = .int .i64 (p : Int) ∧ L' ++ (List.replicate (ln - p) k ++ ofR ((lens rem).drop (k + 1)) (k + 1)) = ofR (lens rem) 0 ∧ L'.length + (ln - p) ≤ 100000 ∧ OfRel w0.heap.size w0 L' f w) (fun _ q _ => ln - (intOf q).toNat)
        case atStart => exact ⟨p0, L, Nat.le_refl _, hle, rfl, by rw [← HDR.out]; exact HL.out, hlnM.out, HF.out⟩
        case round =>
          obtain ⟨p, L', hp0, hpl, rfl, hL', hlm, hF'⟩ := hrel
          have HL' := Lib.hid hL'
          have HF' := Lib.hid hF'
          obtain ⟨FA', fc', rfl⟩ := row_slice1 hF'.1
          have hsw : w0.heap.size ≤ wr.heap.size := hF'.2.size
          clear hL' hF'
          by_cases hlt : p < ln
          · have hlm2 : L'.length + (ln - (p + 1)) + 1 ≤ 100000 := by omega
            have HREP : Hid (List.replicate (ln - p) k = [k] ++ List.replicate (ln - (p + 1)) k) := Lib.hid (by rw [show ln - p = (ln - (p + 1)) + 1 by omega, List.replicate_succ]; rfl)
            go_wp2_with (at_builtin; (refine wpList_append_any _ rfl (.tmp 36) (.tmp 38) _ rfl w0.heap.size 3 j0 _ 1 8 Try.underlying23 hj0 hy0 hy1 hy2 rfl (by decide) _ L'.length (L'.map nv) rfl (HF'.out.1.alloc _) (wr.heap.size + 1) (some ⟨wr.heap.size, 0, none⟩) 1 1 [nv k] rfl (reads_nv wr _ (nv k) _ rfl) (one_nv k) (by unfold maxLen; omega) (by omega) (by simp; omega) ?_; intro v2 w2 hown hgrow hat; have HF2 := Lib.hid (of_step HF'.out hsw hown hgrow); clear hown hgrow hat))
            go_roundw
            case rel => exact ⟨p + 1, L' ++ [k], by omega, hlt, by go_num, by rw [← HL'.out, HREP.out]; simp, by simp; omega, HF2.out⟩
            case measure => simp [intOf]; omega
          · obtain rfl : p = ln := by omega
            go_wp2_with fail
            go_roundw
            case rel => exact ⟨k + 1, L', by omega, by go_num, by rw [← HL'.out, Nat.sub_self]; rfl, HF'.out⟩
            case measure => simp [intOf]; omega
      · obtain rfl : k = m := by omega
        have hLe : L = ofR (lens rem) 0 := by
          have := HL.out
          rw [List.drop_eq_nil_of_le (by rw [lens_length, HRL.out]; exact Nat.le_refl _)] at this
          simpa [ofR] using this
        have HLE := Lib.hid hLe
        have HLn : Hid (L.length = tot (lens rem)) := Lib.hid (by rw [hLe, ofR_len])
        clear hLe
        obtain ⟨n, hn⟩ : ∃ n, n = tot (lens rem) := ⟨_, rfl⟩
        have HN := Lib.hid hn
        have HWT := Lib.hid (weave_step (n - 1) rem s)
        rw [HLn.out, ← hn]
        rw [← hn] at hn
        clear hn
        rcases Nat.eq_zero_or_pos n with rfl | hpos
        · go_wp2
          go_ret
          have h1 := HOut.out
          rw [← HN.out, weave, List.append_nil] at h1
          refine ⟨_, rfl, ?_, (HK.out.trans HF.out.2 (fun i hi => .inl (by omega))).below (fun i hi => hi) (Nat.le_refl _)⟩
          rw [← h1]
          exact HF.out.2.row HO.out (fun g hg h2 => by have := (HO.out.lt g hg).2; omega)
        · obtain ⟨n', rfl⟩ : ∃ n', n = n' + 1 := ⟨n - 1, by omega⟩
          obtain ⟨x, tl, hx, hil, hw, ht2⟩ := HWT.out HN.out.symm
          rw [show n' + 1 - 1 = n' from rfl] at hx hil hw ht2
          have hat := intS_lt s (n' + 1) (by omega)
          obtain ⟨p0, hp0⟩ : ∃ p : Nat, intS s (n' + 1 : Nat) = p := ⟨_, (Int.toNat_of_nonneg hat.1).symm⟩
          rw [hp0] at hx hil hw ht2 hat
          rw [Int.toNat_natCast] at hx hil hw ht2
          have hIget := ofR_get (lens rem) 0 p0 (by rw [← HN.out]; omega)
          rw [← HLE.out, Nat.zero_add] at hIget
          generalize hI : pick (lens rem) p0 = I at hx hil hw ht2 hIget
          rw [HRL.out] at hil
          have hsub := HSUB.out I hil
          rw [hx] at hsub
          have hxp : (subs Ls I)[nx.getD I 0]? = some x := by
            have h1 : ((subs Ls I).drop (nx.getD I 0))[0]? = some x := by rw [← hsub]; rfl
            rw [List.getElem?_drop, Nat.add_zero] at h1
            exact h1
          have hpl : nx.getD I 0 < (subs Ls I).length := (List.getElem?_eq_some_iff.1 hxp).1
          have hlnb : (subs Ls I).length ≤ 100000 := by have h1 := sub_le_tot Ls I; rw [HNN.out] at h1; omega
          obtain ⟨b, o, rfl, hbB, hbl, hvs⟩ := reads_form HR.out (by omega)
          obtain ⟨u, hu, hrd⟩ := HV.out.2 I (by rw [← HM.out]; exact hil)
          obtain ⟨UA, uc, rfl, _, hne⟩ := hrd
          obtain ⟨ub, uo, rfl, hubB, hubl, hcs⟩ := hne (by intro e; rw [e] at hpl; simp at hpl)
          obtain ⟨c0, c1, c2⟩ := hcs _ x hxp
          have cl := (hvs I hil).trans hu
          have HW := Lib.hid hw
          have HT2 := Lib.hid ht2
          have HX := Lib.hid hx
          have HP0 := Lib.hid hp0
          have HNset : Hid (remL Ls (nx.set I (nx.getD I 0 + 1)) = rem.set I tl) := Lib.hid (by
            rw [HREM.out] at hx ⊢
            exact remL_set Ls nx I x tl (by rw [← HM.out]; exact hil) (by rw [HNL.out, HM.out]) hx)
          have hnI : nx[I]? = some (nx.getD I 0) := by rw [List.getD_eq_getElem?_getD, List.getElem?_eq_getElem (by rw [HNL.out]; exact hil)]; rfl
          have HNI := Lib.hid hnI
          have HNS : Hid (∀ i, i < k → (nx.set I (nx.getD I 0 + 1)).getD i 0 ≤ (subs Ls i).length) := Lib.hid (fun i hi => by
            by_cases hii : I = i
            · subst hii
              rw [List.getD_eq_getElem?_getD, List.getElem?_set_self (by rw [HNL.out]; exact hil)]
              exact hpl
            · rw [List.getD_eq_getElem?_getD, List.getElem?_set_ne hii, ← List.getD_eq_getElem?_getD]
              exact HNX.out i hi)
          have HBr := Lib.hid (HF.out.2.blk HB.out (by show ¬ w0.heap.size ≤ W.heap.size; omega))
          have hpn : p0 < n' + 1 := by omega
          have HOr := Lib.hid (HF.out.2.row HO.out (fun g hg h1 => absurd (HO.out.lt g hg).2 (Nat.not_lt.2 h1)))
          have HIG : Hid (L[p0]? = some I) := Lib.hid hIget
          have hLp : p0 < L.length := by rw [HLn.out, ← HN.out]; omega
          have hn1 : n' + 1 ≤ 100000 := by have h1 := HTL.out; rw [← HN.out] at h1; omega
          have hoN : out.length + 1 ≤ N := by have h1 := HTL.out; rw [← HN.out] at h1; omega
          have HKr := Lib.hid (HK.out.trans HF.out.2 (fun i hi => .inl (by show W.heap.size ≤ i; have : w0.heap.size ≤ i := hi; omega)))
          clear hx hw ht2 hp0 hI hat hIget hsub hxp hvs hu hne hcs hnI
          obtain ⟨fg, fcp, hve, hfg, hfl⟩ := HF.out.1.form (by omega)
          injection hve with hve1 _ hve3
          subst hve1
          subst hve3
          generalize hpp : nx.getD I 0 = p at *
          have HPP := Lib.hid hpp
          clear hpp
          go_wp2_with fail
          refine (rint_any W.heap.size s ((n' : Int) + 1) _ HBr.out (by omega)).mono ?_
          rintro e w3 ⟨rfl, hb3, hk3⟩
          rw [show intS s ((n' : Int) + 1) = (p0 : Int) from HP0.out]
          have HB3 := Lib.hid hb3
          have hsz3 : wr.heap.size ≤ w3.heap.size := hk3.size
          have hRow3 := row_one HRow1.out HBr.out (by decide) hk3
          have HRow3 := Lib.hid hRow3
          have HO3 := Lib.hid (row_one HOr.out HBr.out (by decide) hk3)
          have HK3 := Lib.hid (HKr.out.same (hk3.mono (G := fun g => W.heap.size ≤ g) (fun g hg => by unfold One at hg; omega)))
          have hF3 := row_one HF.out.1 HBr.out (by decide) hk3
          have hof : w3.cell? ⟨fg, p0, none⟩ = some (.int .i64 (I : Int)) := by
            rw [hF3.cellAt p0 (by omega), List.getElem?_map, HIG.out]
            rfl
          have hofl : fg < w3.heap.size := (hF3.lt fg rfl).2
          have cn : w3.cell? ⟨W.heap.size + 1, I, none⟩ = some (.int .i64 (p : Int)) := by
            rw [hRow3.cellAt I (by omega), List.getElem?_map, HNI.out]
            rfl
          have far : ∀ {g i : Nat} {v : Value}, g < W.heap.size → W.cell? ⟨g, i, none⟩ = some v → w3.cell? ⟨g, i, none⟩ = some v := fun {g i v} hg h =>
            (World.cell?_of_block (a := ⟨g, i, none⟩) (HK3.out.block g hg (Nat.not_le.2 hg))).trans h
          have cl3 := far hbB cl
          have d0 := far hubB c0
          have d1 := far hubB c1
          have d2 := far hubB c2
          have hb3' : b < w3.heap.size := by omega
          have hub3 : ub < w3.heap.size := by omega
          have hnb3 : W.heap.size + 1 < w3.heap.size := by omega
          have hne1 : ∀ g, (Value.slice A3 out.length c3).ownBlock = some g → W.heap.size ≤ g ∧ g ≠ W.heap.size + 1 := fun g hg => ⟨(HO.out.lt g hg).1, fun e => rows_ne HO3.out HRow3.out (by decide) g hg (by rw [e]; rfl)⟩
          have HNE := Lib.hid hne1
          clear hb3 hk3 hRow3 hF3 far cl c0 c1 c2 hne1
          have e1 : (n' : Int) + 1 ≠ 0 := by omega
          go_wp2_with fail
          have t0 := fun W' (h : Keeps (fun g => (Value.slice A3 out.length c3).ownBlock = some g) w3.drew W') => (World.cell?_of_block (a := ⟨b, o + I, none⟩) (h.block b hb3' (fun e => by have := (HNE.out _ e).1; omega))).trans cl3
          have t1 := fun W' (h : Keeps (fun g => (Value.slice A3 out.length c3).ownBlock = some g) w3.drew W') => (World.cell?_of_block (a := ⟨W.heap.size + 1, I, none⟩) (h.block (W.heap.size + 1) hnb3 (fun e => (HNE.out _ e).2 rfl))).trans cn
          have s0 := fun W' (h : Keeps (fun g => (Value.slice A3 out.length c3).ownBlock = some g) w3.drew W') => (World.cell?_of_block (a := ⟨ub, uo + p * 3, none⟩) (h.block ub hub3 (fun e => by have := (HNE.out _ e).1; omega))).trans d0
          have s1 := fun W' (h : Keeps (fun g => (Value.slice A3 out.length c3).ownBlock = some g) w3.drew W') => (World.cell?_of_block (a := ⟨ub, uo + p * 3 + 1, none⟩) (h.block ub hub3 (fun e => by have := (HNE.out _ e).1; omega))).trans d1
          have s2 := fun W' (h : Keeps (fun g => (Value.slice A3 out.length c3).ownBlock = some g) w3.drew W') => (World.cell?_of_block (a := ⟨ub, uo + p * 3 + 2, none⟩) (h.block ub hub3 (fun e => by have := (HNE.out _ e).1; omega))).trans d2
          have hIk : (I : Int) < (k : Int) := by omega
          have hpi : (p : Int) < ((subs Ls I).length : Int) := by omega
          refine wp_region_plan_by (Keeps (fun g => (Value.slice A3 out.length c3).ownBlock = some g)) ⟨Keeps.refl _, Keeps.same⟩ [(0, false), (1, false), (2, false), (3, false), (4, false), (5, false), (6, false), (7, false), (8, false), (9, false), (10, false), (11, true), (12, true), (13, false)] (by kernel_rfl) (by kernel_rfl) (fun _ d _ _ _ h => by cases d <;> exact h) ?_
          iterate 11 (refine plan_take (v := ?_) rfl (by kernel_rfl) ?_ ?_; rotate_left; (focus (intro w' hw'; go_simp; try with_reducible rfl)); simp only [Act.put, List.setIfInBounds_toArray, List.set_cons_zero, List.set_cons_succ])
          clear t0 t1 s0 s1 s2
          refine plan_turn rfl (by kernel_rfl) (fun K hK => ?_)
          go_simp
          refine hK _ _ ⟨(Keeps.refl _ _).alloc _, ?_⟩
          clear hK K
          refine plan_turn rfl (by kernel_rfl) (fun K hK => ?_)
          have hO3d : OwnA W.heap.size w3.drew (.slice A3 out.length c3) out := HO3.out
          refine wp_append_any _ (.tmp 52) (.tmp 63) _ rfl W.heap.size 48 i0 _ 3 24 Try.underlying34 hi0 hz0 hz1 hz2 rfl (by decide) _ out.length (actsC out) rfl (World.ownsRow.alloc hO3d _) (w3.heap.size + 1) (some ⟨w3.heap.size, 0, none⟩) 1 1 (actC x) rfl (reads_at w3.drew _ x w3.heap.size (by simp)) (one_act x) (by unfold maxLen; omega) (by omega) (by simp; omega) ?_
          intro v6 w6 hown hgrow hat
          obtain ⟨A6, c6, rfl⟩ := row_sliceS3 hown
          have hRd : w3.drew.ownsRow W.heap.size 3 1 (.slice (some ⟨W.heap.size + 1, 0, none⟩) k k) k (nx.map nv) := HRow3.out
          have hBd : Blk w3.drew W.heap.size 29 #[.int .u64 (stS s ((n' : Int) + 1))] := HB3.out
          have HRow6 := Lib.hid (World.ownsRow.kept (hRd.alloc _) hgrow (rows_ne' hRd hO3d (by decide)))
          have HB6 := Lib.hid (Blkf.grown (hBd.alloc _) hgrow (fun e => row_ne_blk hO3d hBd (by decide) e.symm))
          have HO6 : Hid (OwnA W.heap.size w6 (.slice A6 (out.length + 1) c6) (out ++ [x])) := Lib.hid (by unfold OwnA; rw [actsC_append, List.length_append]; simpa [actsC] using hown)
          have HK6 := Lib.hid ((HK3.out.drew.alloc _).grown hgrow (fun g hg => .inl (HNE.out g hg).1))
          refine hK _ _ ⟨(Keeps.refl _ _).grown hgrow (fun g hg => .inl hg), ?_⟩
          clear hK K hown hgrow hat hO3d hRd hBd
          simp only [Act.put, List.setIfInBounds_toArray, List.set_cons_zero, List.set_cons_succ]
          iterate 1 (refine plan_take (v := ?_) rfl (by kernel_rfl) ?_ ?_; rotate_left; (focus (intro w' hw'; go_simp; try with_reducible rfl)); simp only [Act.put, List.setIfInBounds_toArray, List.set_cons_zero, List.set_cons_succ])
          refine plan_end ?_
          have hc6 := (HRow6.out.cellAt I (by omega)).trans (by rw [List.getElem?_map, HNI.out]; rfl : (nx.map nv)[I]? = some (.int .i64 (p : Int)))
          have hf6 := HRow6.out.frozenAt I
          have hl6 := (HRow6.out.lt _ rfl).2
          have hst := HRow6.out.stored I (nv (p + 1))
          have HRow7 := Lib.hid hst.1
          have HO7 := Lib.hid (HO6.out.kept hst.2 (rows_ne' HO6.out HRow6.out (by decide)))
          have HB7 := Lib.hid (HB6.out.far (p := ⟨W.heap.size + 1, I, none⟩) (by simp) (nv (p + 1)))
          have HK7 := Lib.hid (HK6.out.setCell (p := ⟨W.heap.size + 1, I, none⟩) (.inl (by show W.heap.size ≤ W.heap.size + 1; omega)) (nv (p + 1)))
          clear hst
          go_wp2_with fail
          go_roundw
          case rel =>
            refine ⟨nx.set I (p + 1), stS s ((n' : Int) + 1), out ++ [x], by simpa using HNL.out, HNS.out, ?_, HO7.out, ?_, HB7.out, HK7.out⟩
            · rw [HNset.out, HT2.out, ← HOut.out, ← HN.out, HW.out, List.append_assoc]
              rfl
            · rw [List.map_set]
              exact HRow7.out
          case measure => simp [lenOf]; omega
end Go.Proofs.Ytkiicgdfibncfaa
