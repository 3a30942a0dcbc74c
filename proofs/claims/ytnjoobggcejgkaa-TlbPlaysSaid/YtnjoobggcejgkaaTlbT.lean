/- The reference's List, Right; Same. -/
import Derived.Test.YtnjoobggcejgkaaTlbS
namespace Go.Proofs.Ytnjoobggcejgkaa
open Go.RowKit Go.ChangeShapes

set_option maxRecDepth 20000 in
set_option maxHeartbeats 4000000 in
theorem rlist_any (gx n m : Nat) (G : Nat → Prop) (L0 : List Sl) (T : List (List En)) (W : World) (hK : TOk T n m) (hR : RefG W gx G n m L0) (hP : L0.Perm (listT 0 T)) :
    Calls Try.prog 17 #[.pointer (some ⟨gx, 0, none⟩)] W fun e w' => ∃ v, e = .returned v ∧ LiR W T v (listT 0 T) w' := by
  obtain ⟨i0, hi0, hz0, hz1, hz2⟩ := info_parts info_sl
  have HK := Lib.hid hK
  have HR := Lib.hid hR
  have HP := Lib.hid hP
  have hnb := hK.n64
  have hmb := hK.m8
  clear hK hR hP
  go_enter Try.func17, Try.ntmps17
  go_wp2_with fail
  go_loopw [3, 4] (fun v i wr => ∃ a : Nat, a ≤ n ∧ i = .int .i64 a ∧ LiR W T v (listT 0 (T.take a)) wr) (fun _ i _ => n - (intOf i).toNat)
  case atStart => exact ⟨0, by omega, rfl, World.ownsRow_nil _ _ _ _, Below.refl _ _⟩
  case round =>
    obtain ⟨a, ha, rfl, hO, hE⟩ := hrel
    have HO1 := Lib.hid hO
    have HE1 := Lib.hid hE
    obtain ⟨A, c, hg, _⟩ := HR.out.below hE
    have hg0 := hg.cell 0
    have hgl := hg.lt
    simp only [List.getElem?_toArray, List.getElem?_cons_zero, List.getElem?_cons_succ] at hg0
    clear hO hE hg
    by_cases hal : a < n
    · go_wp2_with fail
      clear hg0 hgl
      go_loopw [3, 5] (fun v i wr => ∃ k : Nat, k ≤ m ∧ i = .int .i64 k ∧ LiR W T v (listT 0 (T.take a) ++ listW a 0 ((T.getD a []).take k)) wr) (fun _ i _ => m - (intOf i).toNat)
      case atStart => exact ⟨0, by omega, rfl, by rw [List.take_zero]; show LiR W T _ (_ ++ []) _; rw [List.append_nil]; exact ⟨HO1.out, HE1.out⟩⟩
      case round =>
        obtain ⟨k, hk, rfl, hO, hE⟩ := hrel
        rename World => wr
        have HO2 := Lib.hid hO
        have HE2 := Lib.hid hE
        have HWY : Hid ((T.getD a []).length = m) := Lib.hid (HK.out.ways a hal)
        have HTL : Hid (T.length = n) := Lib.hid HK.out.len
        obtain ⟨A, c, hg, _⟩ := HR.out.below hE
        have hg1 := hg.cell 1
        have hgl := hg.lt
        simp only [List.getElem?_toArray, List.getElem?_cons_zero, List.getElem?_cons_succ] at hg1
        clear hO hE hg
        by_cases hkl : k < m
        · obtain ⟨e, he⟩ : ∃ e, (T.getD a [])[k]? = some e := ⟨_, List.getElem?_eq_getElem (by rw [HWY.out]; exact hkl)⟩
          have HST : Hid (listT 0 (T.take a) ++ listW a 0 ((T.getD a []).take (k + 1)) = (listT 0 (T.take a) ++ listW a 0 ((T.getD a []).take k)) ++ (if e.full then [⟨a, k, e.asid, e.page, e.lf⟩] else [])) := Lib.hid (by
            rw [take_snoc he, listW_snoc, List.append_assoc, Nat.zero_add, List.length_take, HWY.out, Nat.min_eq_left (by omega)])
          have HLN : Hid ((listT 0 (T.take a) ++ listW a 0 ((T.getD a []).take k)).length ≤ 600) := Lib.hid (by
            have h1 := listT_le m (T.take a) 0 (fun s hs => by
              obtain ⟨i, hi, rfl⟩ := List.mem_take_iff_getElem.1 hs
              have := HK.out.ways i (by have := HTL.out; omega)
              rw [List.getD_eq_getElem?_getD, List.getElem?_eq_getElem (by omega)] at this
              exact this)
            have h2 := listW_le a ((T.getD a []).take k) 0
            rw [List.length_take] at h1 h2
            rw [List.length_append]
            have h3 : min a T.length * m ≤ 64 * 8 := Nat.mul_le_mul (by omega) hmb
            omega)
          obtain ⟨N, hN⟩ : ∃ N, listT 0 (T.take a) ++ listW a 0 ((T.getD a []).take k) = N := ⟨_, rfl⟩
          rw [hN] at HST HLN HO2
          clear hN
          have HE := Lib.hid he
          clear he
          obtain ⟨A1, c1, rfl⟩ := row_form HO2.out
          go_wp2_with fail
          refine (rat_T gx n m n m L0 T a k _ HK.out (HR.out.below HE2.out).ref HP.out).mono ?_
          rintro _ w3 ⟨rfl, hb3⟩
          have HO3 := Lib.hid (sown_below HO2.out hb3)
          have HE3 := Lib.hid (HE2.out.trans (hb3.mono HE2.out.size))
          clear hg1 hgl hb3 HO2 HE2
          cases hf : e.full
          · rw [at_not HE.out hf]
            rw [hf] at HST
            have HO4 := Lib.hid (HO3.out.alloc (.cells sl0.cs 64))
            have HE4 := Lib.hid (HE3.out.alloc HE3.out.size (.cells sl0.cs 64))
            clear hf
            go_wp2_with (first | ((with_reducible refine wl_store_new 64 (.tmp 6) (.tmp 29) rfl ?_ w3 (World.heap w3).size 64 #[.int .i64 0, .int .i64 0, .int .i64 0, .int .u64 0, .bool false, .bool false, .bool false, .bool false, .bool false, .bool false, .bool false, .bool false, .int .i64 0, .int .u64 0, .int .i64 0, .int .u64 0] sl0.cs ?_ ?_ ?_ ?_ ?_ ?_ ?_ ?_); exact rfl; exact rfl; exact rfl; exact rfl; exact rfl; exact rfl; exact slot_row sl0; exact cs_one sl0))
            go_roundw
            case rel =>
              refine ⟨k + 1, hkl, by go_num, ?_⟩
              rw [HST.out]
              show LiR W T _ (N ++ []) _
              rw [List.append_nil]
              exact ⟨HO4.out, HE4.out⟩
            case measure => simp [intOf]; omega
          · rw [at_yes HE.out hf]
            rw [hf] at HST
            obtain ⟨x, hx⟩ : ∃ x : Sl, x = ⟨a, k, e.asid, e.page, e.lf⟩ := ⟨_, rfl⟩
            rw [← hx] at HST
            rw [← hx, show ((some x).getD sl0).cs = x.cs from rfl, show (some x).isSome = true from rfl]
            have HO4 := Lib.hid (HO3.out.alloc (.cells x.cs 64))
            have HE4 := Lib.hid (HE3.out.alloc HE3.out.size (.cells x.cs 64))
            have HX4 : Hid (Blk (w3.alloc (.cells x.cs 64)) w3.heap.size 64 #[.int .i64 x.set, .int .i64 x.way, .int .i64 x.asid, .int .u64 x.page, .bool x.lf.v, .bool x.lf.r, .bool x.lf.w, .bool x.lf.x, .bool x.lf.u, .bool x.lf.g, .bool x.lf.a, .bool x.lf.d, .int .i64 x.lf.rsw, .int .u64 x.lf.ppn, .int .i64 x.lf.lev, .int .u64 x.lf.pos]) := Lib.hid (Blkf.new_at w3 64 (0, 0) x.cs rfl)
            clear hf hx
            have hsz4 := HE3.out.size
            go_wp2_with (first | ((with_reducible refine wl_store_new 64 (.tmp 6) (.tmp 29) rfl ?_ w3 (World.heap w3).size 64 #[.int .i64 0, .int .i64 0, .int .i64 0, .int .u64 0, .bool false, .bool false, .bool false, .bool false, .bool false, .bool false, .bool false, .bool false, .int .i64 0, .int .u64 0, .int .i64 0, .int .u64 0] x.cs ?_ ?_ ?_ ?_ ?_ ?_ ?_ ?_); exact rfl; exact rfl; exact rfl; exact rfl; exact rfl; exact rfl; exact slot_row x; exact cs_one x) | ((with_reducible refine wl_load 64 (.tmp 6) rfl ?_ w3.heap.size 0 #[.int .i64 x.set, .int .i64 x.way, .int .i64 x.asid, .int .u64 x.page, .bool x.lf.v, .bool x.lf.r, .bool x.lf.w, .bool x.lf.x, .bool x.lf.u, .bool x.lf.g, .bool x.lf.a, .bool x.lf.d, .int .i64 x.lf.rsw, .int .u64 x.lf.ppn, .int .i64 x.lf.lev, .int .u64 x.lf.pos] ?_ HX4.out.range ?_ ?_); exact rfl; exact rfl; exact ex_row) | (at_builtin; (refine wpList_append_any _ rfl (.tmp 32) (.tmp 34) _ rfl W.heap.size 64 i0 _ 16 72 Try.underlying39 hi0 hz0 hz1 hz2 rfl (by decide) _ N.length (slC N) rfl (HO4.out.alloc _) (w3.heap.size + 1 + 1) (some ⟨w3.heap.size + 1, 0, none⟩) 1 1 (Sl.vs x) rfl (reads_sl_at _ _ x (w3.heap.size + 1) (by simp)) (one_sl _) (by unfold maxLen; have := HLN.out; omega) (by have := HLN.out; omega) (by simp; omega) ?_; intro v3 w3 hown hgrow hat; have HOWN := Lib.hid hown; have HE5 := Lib.hid ((HE4.out.alloc HE4.out.size _).grown hgrow (by have := HE3.out.size; simp; omega) (fun g hg => (HO4.out.lt g hg).1)); clear hown hgrow hat)))
            go_roundw
            case rel =>
              refine ⟨k + 1, hkl, by go_num, ?_⟩
              rw [HST.out]
              refine ⟨?_, HE5.out⟩
              have h1 := HOWN.out
              rw [← slC_snoc, show N.length + 1 = (N ++ [x]).length from by simp] at h1
              exact h1
            case measure => simp [intOf]; omega
        · obtain rfl : m = k := by omega
          have HNX : Hid (listT 0 (T.take a) ++ listW a 0 ((T.getD a []).take m) = listT 0 (T.take (a + 1))) := Lib.hid (by
            have hlt : a < T.length := by have := HTL.out; omega
            have hs : T.getD a [] = T[a]'hlt := by rw [List.getD_eq_getElem?_getD, List.getElem?_eq_getElem hlt]; rfl
            have ht : (T.getD a []).take m = T[a]'hlt := by rw [List.take_of_length_le (Nat.le_of_eq HWY.out), hs]
            rw [ht, List.take_add_one, List.getElem?_eq_getElem hlt]
            show _ = listT 0 (T.take a ++ [T[a]'hlt])
            rw [listT_snoc, List.length_take, Nat.min_eq_left (Nat.le_of_lt hlt), Nat.zero_add])
          go_wp2_with fail
          go_roundw
          case rel => exact ⟨a + 1, hal, by go_num, by rw [← HNX.out]; exact ⟨HO2.out, HE2.out⟩⟩
          case measure => simp [intOf]; omega
    · obtain rfl : n = a := by omega
      go_wp2_with fail
      go_ret
      refine ⟨_, rfl, ?_⟩
      have h1 := HO1.out
      rw [List.take_of_length_le (Nat.le_of_eq HK.out.len)] at h1
      exact ⟨h1, HE1.out⟩
end Go.Proofs.Ytnjoobggcejgkaa
