/- Texts of the proof: IsaB, IsaE, IsaF, HmB, HmC, HmD, HmE, CoC, CoD, CoE. -/
import Derived.Test.YtnebdlchogmneaaGreatDoorPk1
import Derived.Test.YtnebdlchogmneaaGreatDoorPk13
import Derived.Test.YtnebdlchogmneaaGreatDoorPk16
import Derived.Test.YtnebdlchogmneaaGreatDoorPk14
import Derived.Test.YtnebdlchogmneaaGreatDoorPk2
set_option maxHeartbeats 8000000
set_option linter.unusedVariables false
set_option linter.unusedSimpArgs false
namespace Go.Proofs.YtnebdlchogmneaaGreatDoor
open Go.RowKit
def iA (r:Int) (h:Bool) (n:Nat):Bool:=!((r != 0 && !h)||(decide (n<3)&&(decide (r<0)||decide (15<r))))
def bR (k:Nat) (d s t i:Int):Nat→Bool
  | 0=>iA d (uD k) 0
  | 1=>iA s (uS k) 1
  | 2=>iA t (uT k) 2
  | _=>iA i (uI k) 3
def sV (k:Nat) (d s t i:Int):Bool:=(k != 10)&&decide (-2048≤i)&&decide (i≤2047)&&bR k d s t i 0&&bR k d s t i 1&&bR k d s t i 2&&bR k d s t i 3
def jA (o d s t i:Int):Bool:=sV (kd o) d s t i
theorem rM {k:Nat} {d s t i:Int} {n:Nat} (hn:n<4) (h:bR k d s t i n=false):sV k d s t i=false:=by
  unfold sV;rcases (show n=0∨n=1∨n=2∨n=3 by omega) with rfl|rfl|rfl|rfl <;> simp [h]
theorem CL (k:Nat) (hk:k<10):(ks k).toList≠[]:=by
  rcases (show k=0∨k=1∨k=2∨k=3∨k=4∨k=5∨k=6∨k=7∨k=8∨k=9 by omega) with rfl|rfl|rfl|rfl|rfl|rfl|rfl|rfl|rfl|rfl <;> simp [ks,ByteArray.toList_mk]
theorem wI (o d s t i:Int) (W:World):
    Calls Tryz.prog 66 #[.agg #[.int .i64 o,.int .i64 d,.int .i64 s,.int .i64 t,.int .i64 i]] W fun e w'=>e=.returned (.bool (jA o d s t i))∧Below W.heap.size W w':=by
  unfold jA;have key:∀ k,kd o=k→Calls Tryz.prog 66 #[.agg #[.int .i64 o,.int .i64 d,.int .i64 s,.int .i64 t,.int .i64 i]] W fun e w'=>e=.returned (.bool (sV k d s t i))∧Below W.heap.size W w':=by
    intro k hk;have HK:=Yh hk
    clear hk;by_cases h10:k=10
    · subst h10
      go_enter Tryz.func66,Tryz.ntmps66
      go_wp2_with fail;refine (mD _ _).mono ?_
      rintro e w' ⟨rfl,rfl⟩;rw [HK.out,show ks 10=⟨#[]⟩ from rfl];have hE:((⟨#[]⟩:ByteArray).toList == [])=true:=by rw [ByteArray.toList_mk];rfl
      go_wp2;go_ret
      exact ⟨rfl,by go_grown⟩
    · have h9:k<10:=by
        have h:=HK.out
        unfold kd at h
        split at h
        · rename_i hr
          have:=RN hr.1 hr.2
          unfold kd at this;rw [if_pos hr] at this;omega
        · omega
      have H9:=Yh h9
      clear h9 h10;by_cases hi:i < -2048∨2047<i
      · have hno:sV k d s t i=false:=by
          unfold sV;rcases hi with h|h
          · have:decide (-2048≤i)=false:=by simp;omega
            simp [this]
          · have:decide (i≤2047)=false:=by simp;omega
            simp [this]
        rw [hno];clear hno;have HI:=Yh hi
        clear hi;go_enter Tryz.func66,Tryz.ntmps66
        go_wp2_with fail;refine (mD _ _).mono ?_
        rintro e w' ⟨rfl,rfl⟩;rw [HK.out];have hE1:((ks k).toList == [])=false:=by simpa using CL k H9.out
        have hE2:(ks k).toList.isEmpty=false:=by simpa using CL k H9.out
        by_cases hl:i < -2048
        · go_wp2
          go_ret
          exact ⟨rfl,by go_grown⟩
        · have hg:2047<i:=by have:=HI.out;omega
          have hl':decide (i < -2048)=false:=by simp;omega
          clear hl;go_wp2;go_ret
          exact ⟨rfl,by go_grown⟩
      · have h1:-2048≤i:=by omega
        have h2:i≤2047:=by omega
        clear hi;have hfin:sV k d s t i=(bR k d s t i 0&&bR k d s t i 1&&bR k d s t i 2&&bR k d s t i 3):=by
          have h9:=H9.out
          have e1:(k != 10)=true:=by rw [bne_iff_ne];omega
          unfold sV;simp [e1,h1,h2]
        have HF:=Yh hfin
        have HX:=Yh (And.intro h1 h2)
        have g1:decide (i < -2048)=false:=by simp;omega
        have g2:decide (2047<i)=false:=by simp;omega
        clear hfin h1 h2;go_enter Tryz.func66,Tryz.ntmps66
        go_wp2_with fail;refine (mD _ _).mono ?_
        rintro e w' ⟨rfl,rfl⟩;rw [HK.out];have hE1:((ks k).toList == [])=false:=by simpa using CL k H9.out
        have hE2:(ks k).toList.isEmpty=false:=by simpa using CL k H9.out
        go_wp2_with fail;refine (RO k _ H9.out).mono ?_
        rintro e w' ⟨rfl,rfl⟩;clear hE1 hE2 g1 g2
        go_wp2_with fail;refine Ep (fun W3 hW3=>?_)
        have hm:Blk W3 (W.heap.size+2) 249 #[.bool (uD k),.bool (uS k),.bool (uT k),.bool (uI k)]:=by rw [hW3];exact aI.bM _ _ _ _ (by simp)
        have hb:Below W.heap.size W W3:=by rw [hW3];go_grown
        have HM:=Yh hm
        have HB:=Yh hb
        clear hm hb hW3
        go_loop [33] (fun c=>∃ n:Nat,n≤4∧c=.int .i64 n∧∀ j,j<n→bR k d s t i j=true) (fun c=>4-(intOf c).toNat)
        case atStart=>exact ⟨0,by omega,rfl,fun j hj=>by omega⟩
        case round =>
          obtain ⟨n,hn,rfl,hall⟩:=hrel
          have HA:=Yh hall
          clear hall;rcases (show n=4∨n=0∨n=1∨n=2∨n=3 by omega) with rfl|rfl|rfl|rfl|rfl
          · clear hn
            go_wp2;go_ret
            refine ⟨?_,HB.out⟩
            have ha:=HA.out
            rw [HF.out,ha 0 (by decide),ha 1 (by decide),ha 2 (by decide),ha 3 (by decide)]
            rfl
          · clear hn
            have ix:∀ W':World,(Instr.index 251 (.agg #[.int .i64 d,.int .i64 s,.int .i64 t,.int .i64 i]) (.int .i64 0)).run Tryz.prog W'=.ok (.int .i64 d) W':=fun W'=>BQ W' _ _ 4 _ .i64 0 _ Tryz.underlying251 (by kernel_rfl) (by kernel_rfl) (by decide) rfl
            have hc:W3.cell? ⟨W.heap.size+2,0,none⟩=some (.bool (uD k)):=HM.out.cell 0
            by_cases hz:d=0
            · have hp:bR k d s t i 0=true:=by simp [bR,iA,hz]
              have HP:=Yh hp
              have e0:(d != 0)=false:=by simp [hz]
              have e1:decide (d<0)=false:=by simp;omega
              have e2:decide (15<d)=false:=by simp;omega
              clear hz hp hc;go_wp2
              go_round
              case rel=>exact ⟨0+1,by omega,rfl,fun j hj=>by
                rcases Nat.lt_or_ge j 0 with h|h
                · exact HA.out j h
                · obtain rfl:j=0:=by omega
                  exact HP.out⟩
              case measure=>simp [intOf]
            · have e0:(d != 0)=true:=by rw [bne_iff_ne];exact hz
              cases hu:uD k
              · rw [hu] at hc
                have hp:bR k d s t i 0=false:=by simp [bR,iA,hu,hz]
                have HP:=Yh hp
                clear hp hz hu;go_wp2;go_ret
                exact ⟨by rw [rM (n:=0) (by decide) HP.out];rfl,HB.out⟩
              · rw [hu] at hc
                by_cases hlt:d<0
                · have hp:bR k d s t i 0=false:=by simp [bR,iA,hu,hlt]
                  have HP:=Yh hp
                  have e1:decide (d<0)=true:=by simpa using hlt
                  clear hp hz hu hlt;go_wp2;go_ret
                  exact ⟨by rw [rM (n:=0) (by decide) HP.out];rfl,HB.out⟩
                · by_cases hgt:15<d
                  · have hp:bR k d s t i 0=false:=by simp [bR,iA,hu,hgt]
                    have HP:=Yh hp
                    have e1:decide (d<0)=false:=by simpa using hlt
                    have e2:decide (15<d)=true:=by simpa using hgt
                    clear hp hz hu hlt hgt;go_wp2;go_ret
                    exact ⟨by rw [rM (n:=0) (by decide) HP.out];rfl,HB.out⟩
                  · have hp:bR k d s t i 0=true:=by simp [bR,iA,hu];omega
                    have HP:=Yh hp
                    have e1:decide (d<0)=false:=by simpa using hlt
                    have e2:decide (15<d)=false:=by simpa using hgt
                    clear hp hz hu hlt hgt;go_wp2
                    go_round
                    case rel=>exact ⟨0+1,by omega,rfl,fun j hj=>by
                      rcases Nat.lt_or_ge j 0 with h|h
                      · exact HA.out j h
                      · obtain rfl:j=0:=by omega
                        exact HP.out⟩
                    case measure=>simp [intOf]
          · clear hn
            have ix:∀ W':World,(Instr.index 251 (.agg #[.int .i64 d,.int .i64 s,.int .i64 t,.int .i64 i]) (.int .i64 1)).run Tryz.prog W'=.ok (.int .i64 s) W':=fun W'=>BQ W' _ _ 4 _ .i64 1 _ Tryz.underlying251 (by kernel_rfl) (by kernel_rfl) (by decide) rfl
            have hc:W3.cell? ⟨W.heap.size+2,1,none⟩=some (.bool (uS k)):=HM.out.cell 1
            by_cases hz:s=0
            · have hp:bR k d s t i 1=true:=by simp [bR,iA,hz]
              have HP:=Yh hp
              have e0:(s != 0)=false:=by simp [hz]
              have e1:decide (s<0)=false:=by simp;omega
              have e2:decide (15<s)=false:=by simp;omega
              clear hz hp hc;go_wp2
              go_round
              case rel=>exact ⟨1+1,by omega,rfl,fun j hj=>by
                rcases Nat.lt_or_ge j 1 with h|h
                · exact HA.out j h
                · obtain rfl:j=1:=by omega
                  exact HP.out⟩
              case measure=>simp [intOf]
            · have e0:(s != 0)=true:=by rw [bne_iff_ne];exact hz
              cases hu:uS k
              · rw [hu] at hc
                have hp:bR k d s t i 1=false:=by simp [bR,iA,hu,hz]
                have HP:=Yh hp
                clear hp hz hu;go_wp2;go_ret
                exact ⟨by rw [rM (n:=1) (by decide) HP.out];rfl,HB.out⟩
              · rw [hu] at hc
                by_cases hlt:s<0
                · have hp:bR k d s t i 1=false:=by simp [bR,iA,hu,hlt]
                  have HP:=Yh hp
                  have e1:decide (s<0)=true:=by simpa using hlt
                  clear hp hz hu hlt;go_wp2;go_ret
                  exact ⟨by rw [rM (n:=1) (by decide) HP.out];rfl,HB.out⟩
                · by_cases hgt:15<s
                  · have hp:bR k d s t i 1=false:=by simp [bR,iA,hu,hgt]
                    have HP:=Yh hp
                    have e1:decide (s<0)=false:=by simpa using hlt
                    have e2:decide (15<s)=true:=by simpa using hgt
                    clear hp hz hu hlt hgt;go_wp2;go_ret
                    exact ⟨by rw [rM (n:=1) (by decide) HP.out];rfl,HB.out⟩
                  · have hp:bR k d s t i 1=true:=by simp [bR,iA,hu];omega
                    have HP:=Yh hp
                    have e1:decide (s<0)=false:=by simpa using hlt
                    have e2:decide (15<s)=false:=by simpa using hgt
                    clear hp hz hu hlt hgt;go_wp2
                    go_round
                    case rel=>exact ⟨1+1,by omega,rfl,fun j hj=>by
                      rcases Nat.lt_or_ge j 1 with h|h
                      · exact HA.out j h
                      · obtain rfl:j=1:=by omega
                        exact HP.out⟩
                    case measure=>simp [intOf]
          · clear hn
            have ix:∀ W':World,(Instr.index 251 (.agg #[.int .i64 d,.int .i64 s,.int .i64 t,.int .i64 i]) (.int .i64 2)).run Tryz.prog W'=.ok (.int .i64 t) W':=fun W'=>BQ W' _ _ 4 _ .i64 2 _ Tryz.underlying251 (by kernel_rfl) (by kernel_rfl) (by decide) rfl
            have hc:W3.cell? ⟨W.heap.size+2,2,none⟩=some (.bool (uT k)):=HM.out.cell 2
            by_cases hz:t=0
            · have hp:bR k d s t i 2=true:=by simp [bR,iA,hz]
              have HP:=Yh hp
              have e0:(t != 0)=false:=by simp [hz]
              have e1:decide (t<0)=false:=by simp;omega
              have e2:decide (15<t)=false:=by simp;omega
              clear hz hp hc;go_wp2
              go_round
              case rel=>exact ⟨2+1,by omega,rfl,fun j hj=>by
                rcases Nat.lt_or_ge j 2 with h|h
                · exact HA.out j h
                · obtain rfl:j=2:=by omega
                  exact HP.out⟩
              case measure=>simp [intOf]
            · have e0:(t != 0)=true:=by rw [bne_iff_ne];exact hz
              cases hu:uT k
              · rw [hu] at hc
                have hp:bR k d s t i 2=false:=by simp [bR,iA,hu,hz]
                have HP:=Yh hp
                clear hp hz hu;go_wp2;go_ret
                exact ⟨by rw [rM (n:=2) (by decide) HP.out];rfl,HB.out⟩
              · rw [hu] at hc
                by_cases hlt:t<0
                · have hp:bR k d s t i 2=false:=by simp [bR,iA,hu,hlt]
                  have HP:=Yh hp
                  have e1:decide (t<0)=true:=by simpa using hlt
                  clear hp hz hu hlt;go_wp2;go_ret
                  exact ⟨by rw [rM (n:=2) (by decide) HP.out];rfl,HB.out⟩
                · by_cases hgt:15<t
                  · have hp:bR k d s t i 2=false:=by simp [bR,iA,hu,hgt]
                    have HP:=Yh hp
                    have e1:decide (t<0)=false:=by simpa using hlt
                    have e2:decide (15<t)=true:=by simpa using hgt
                    clear hp hz hu hlt hgt;go_wp2;go_ret
                    exact ⟨by rw [rM (n:=2) (by decide) HP.out];rfl,HB.out⟩
                  · have hp:bR k d s t i 2=true:=by simp [bR,iA,hu];omega
                    have HP:=Yh hp
                    have e1:decide (t<0)=false:=by simpa using hlt
                    have e2:decide (15<t)=false:=by simpa using hgt
                    clear hp hz hu hlt hgt;go_wp2
                    go_round
                    case rel=>exact ⟨2+1,by omega,rfl,fun j hj=>by
                      rcases Nat.lt_or_ge j 2 with h|h
                      · exact HA.out j h
                      · obtain rfl:j=2:=by omega
                        exact HP.out⟩
                    case measure=>simp [intOf]
          · clear hn
            have ix:∀ W':World,(Instr.index 251 (.agg #[.int .i64 d,.int .i64 s,.int .i64 t,.int .i64 i]) (.int .i64 3)).run Tryz.prog W'=.ok (.int .i64 i) W':=fun W'=>BQ W' _ _ 4 _ .i64 3 _ Tryz.underlying251 (by kernel_rfl) (by kernel_rfl) (by decide) rfl
            have hc:W3.cell? ⟨W.heap.size+2,3,none⟩=some (.bool (uI k)):=HM.out.cell 3
            by_cases hz:i=0
            · have hp:bR k d s t i 3=true:=by simp [bR,iA,hz]
              have HP:=Yh hp
              have e0:(i != 0)=false:=by simp [hz]
              have e1:decide (i<0)=false:=by simp;omega
              have e2:decide (15<i)=false:=by simp;omega
              clear hz hp hc;go_wp2
              go_round
              case rel=>exact ⟨3+1,by omega,rfl,fun j hj=>by
                rcases Nat.lt_or_ge j 3 with h|h
                · exact HA.out j h
                · obtain rfl:j=3:=by omega
                  exact HP.out⟩
              case measure=>simp [intOf]
            · have e0:(i != 0)=true:=by rw [bne_iff_ne];exact hz
              cases hu:uI k
              · rw [hu] at hc
                have hp:bR k d s t i 3=false:=by simp [bR,iA,hu,hz]
                have HP:=Yh hp
                clear hp hz hu;go_wp2;go_ret
                exact ⟨by rw [rM (n:=3) (by decide) HP.out];rfl,HB.out⟩
              · rw [hu] at hc
                have hp:bR k d s t i 3=true:=by simp [bR,iA,hu]
                have HP:=Yh hp
                clear hp hz hu;go_wp2
                go_round
                case rel=>exact ⟨3+1,by omega,rfl,fun j hj=>by
                  rcases Nat.lt_or_ge j 3 with h|h
                  · exact HA.out j h
                  · obtain rfl:j=3:=by omega
                    exact HP.out⟩
                case measure=>simp [intOf]
  exact key _ rfl
def CO (n:Int) (h:Bool):Bool:=n==0||(decide (0<n)&&decide (n<16)&&h)
theorem F6 (r:Int) (h:Bool) (n:Nat) (hn:n<3):iA r h n=CO r h:=by
  unfold iA CO;by_cases h0:r=0
  · subst h0;simp
  · have e0:(r != 0)=true:=by rw [bne_iff_ne];exact h0
    have e1:(r==0)=false:=by rw [beq_eq_false_iff_ne];exact h0
    have e2:decide (n<3)=true:=by simpa using hn
    rw [e0,e1,e2]
    cases h <;> simp
    rw [Bool.eq_iff_iff];simp
    omega
theorem LH {o d s t i:Int} (h:jA o d s t i=true):(0≤o∧o<35)∧(0≤d∧d≤15)∧(0≤s∧s≤15)∧(0≤t∧t≤15)∧(-2048≤i∧i≤2047):=by
  unfold jA sV at h;simp only [Bool.and_eq_true,decide_eq_true_eq,bne_iff_ne,bR,F6 _ _ 0 (by decide),F6 _ _ 1 (by decide),F6 _ _ 2 (by decide)] at h
  obtain ⟨⟨⟨⟨⟨⟨h1,h2⟩,h3⟩,h4⟩,h5⟩,h6⟩,h7⟩:=h
  have hr:0≤o∧o<35:=by
    by_cases hr:0≤o∧o<35
    · exact hr
    · exact absurd (Ku hr) h1
  have wG:∀ {r:Int} {b:Bool},CO r b=true→0≤r∧r≤15:=by
    intro r b h;simp [CO] at h
    omega
  exact ⟨hr,wG h4,wG h5,wG h6,h2,h3⟩
theorem wraps_u32 (n:Int) (h₀:0≤n) (h₁:n<2 ^ 32):IntKind.u32.wrap n=n:=by rw [IntKind.wrap_u32];omega
theorem u32_or (x y:Int) (i:Nat) (hi:i≤32) (hx₀:0≤x) (hx:x<2 ^ i) (hy₀:0≤y) (hy:y % 2 ^ i=0) (hy₁:y<2 ^ 32):bits .or .u32 x y=x+y:=by
  have hx1:x<2 ^ 32:=by
    have:(2:Int) ^ i≤2 ^ 32:=by exact_mod_cast Nat.pow_le_pow_right (by decide:0<2) hi
    omega
  have h:=bits_join .u32 32 (by decide) wraps_u32 i y x hy₀ hy hy₁ hx₀ hx hx1
  obtain ⟨a,rfl⟩:=Int.eq_ofNat_of_zero_le hx₀
  obtain ⟨b,rfl⟩:=Int.eq_ofNat_of_zero_le hy₀
  have e1:=(bits_nat .u32 32 (by decide) wraps_u32 a b (by exact_mod_cast hx1) (by exact_mod_cast hy₁)).2
  have e2:=(bits_nat .u32 32 (by decide) wraps_u32 b a (by exact_mod_cast hy₁) (by exact_mod_cast hx1)).2
  rw [e1,Nat.or_comm,← e2,h,Int.add_comm]
theorem TN (i:Int):bits .and .i64 i 4095=i % 4096:=by
  have h1:(BitVec.ofInt 64 i).toNat=(i % 18446744073709551616).toNat:=by rw [BitVec.toNat_ofInt];rfl
  have h2:(BitVec.ofInt 64 4095).toNat=2 ^ 12-1:=by decide
  show IntKind.i64.wrap ((BitVec.ofInt 64 i &&& BitVec.ofInt 64 4095).toNat:Int)=_
  rw [BitVec.toNat_and,h1,h2,Nat.and_two_pow_sub_one_eq_mod,IntKind.wrap_i64];omega
theorem TP (x:Int) (h₀:0≤x) (h₁:x<2 ^ 32):bits .and .u32 x 255=x % 256:=bits_mask .u32 32 (by decide) wraps_u32 8 (by decide) x h₀ h₁
theorem F7 (x:Int) (h₀:0≤x) (h₁:x<2 ^ 32):bits .and .u32 x 15=x % 16:=bits_mask .u32 32 (by decide) wraps_u32 4 (by decide) x h₀ h₁
def iT (o d s t i:Int):Int:=o+256*d+4096*s+65536*t+1048576*(i % 4096)
theorem put_eq (o d s t i:Int) (o0:0≤o) (o1:o<35) (d0:0≤d) (d1:d≤15) (s0:0≤s) (s1:s≤15) (t0:0≤t) (t1:t≤15):
    bits .or .u32 (bits .or .u32 (bits .or .u32 (bits .or .u32 o (d*256)) (s*4096)) (t*65536)) (bits .and .i64 i 4095 % 4294967296*1048576 % 4294967296)=iT o d s t i:=by
  rw [u32_or o (d*256) 8 (by decide) o0 (by omega) (by omega) (by omega) (by omega),u32_or _ (s*4096) 12 (by decide) (by omega) (by omega) (by omega) (by omega) (by omega),
    u32_or _ (t*65536) 16 (by decide) (by omega) (by omega) (by omega) (by omega) (by omega),TN,u32_or _ _ 20 (by decide) (by omega) (by omega) (by omega) (by omega) (by omega)]
  unfold iT;omega
def gI (x:Int):Int:=if x / 1048576≤2047 then x / 1048576 else x / 1048576-4096
theorem TQ (x:Int) (h0:0≤x) (h1:x<4294967296):wrap64 (wrap32 x / 1048576)=gI x:=by
  unfold gI;simp only [wrap64,wrap32,IntKind.wrap_i64,IntKind.wrap_i32]
  split <;> omega
def Az (x:Int):Bool:=jA (x % 256) (x / 256 % 16) (x / 4096 % 16) (x / 65536 % 16) (gI x)
def AA (x:Int):Value:=.agg #[.int .i64 (x % 256),.int .i64 (x / 256 % 16),.int .i64 (x / 4096 % 16),.int .i64 (x / 65536 % 16),.int .i64 (gI x)]
theorem LJ (o d s t i:Int) (h:jA o d s t i=true):Az (iT o d s t i)=true∧AA (iT o d s t i)=.agg #[.int .i64 o,.int .i64 d,.int .i64 s,.int .i64 t,.int .i64 i]∧0≤iT o d s t i∧iT o d s t i<4294967296:=by
  obtain ⟨⟨o0,o1⟩,⟨d0,d1⟩,⟨s0,s1⟩,⟨t0,t1⟩,i0,i1⟩:=LH h
  have e0:iT o d s t i % 256=o:=by unfold iT;omega
  have e1:iT o d s t i / 256 % 16=d:=by unfold iT;omega
  have e2:iT o d s t i / 4096 % 16=s:=by unfold iT;omega
  have e3:iT o d s t i / 65536 % 16=t:=by unfold iT;omega
  have e4:gI (iT o d s t i)=i:=by unfold gI iT;split <;> omega
  refine ⟨?_,?_,?_,?_⟩
  · unfold Az;rw [e0,e1,e2,e3,e4,h]
  · unfold AA;rw [e0,e1,e2,e3,e4]
  · unfold iT;omega
  · unfold iT;omega
theorem TR (o d s t i:Int) (W:World) (h:jA o d s t i=false):
    Calls Tryz.prog 36 #[.agg #[.int .i64 o,.int .i64 d,.int .i64 s,.int .i64 t,.int .i64 i]] W fun e w'=>e=.returned (.tuple #[.int .u32 0,.int .i64 2])∧Below W.heap.size W w':=by
  have H:=Yh h
  clear h;go_enter Tryz.func36,Tryz.ntmps36
  go_wp2_with fail;refine (wI _ _ _ _ _ _).mono ?_
  rintro e w1 ⟨rfl,hb⟩;rw [H.out];have b1:=((Below.refl _ W).alloc (Nat.le_refl _) (.cells #[.int .i64 o,.int .i64 d,.int .i64 s,.int .i64 t,.int .i64 i] 39)).trans (hb.mono (by simp))
  have HB:=Yh b1
  clear hb b1;go_wp2
  go_ret2
  exact ⟨rfl,HB.out⟩
theorem TT (o d s t i:Int) (W:World) (h:jA o d s t i=true):
    Calls Tryz.prog 36 #[.agg #[.int .i64 o,.int .i64 d,.int .i64 s,.int .i64 t,.int .i64 i]] W fun e w'=>e=.returned (.tuple #[.int .u32 (iT o d s t i),.int .i64 0])∧Below W.heap.size W w':=by
  have H:=Yh h
  obtain ⟨⟨o0,o1⟩,⟨d0,d1⟩,⟨s0,s1⟩,⟨t0,t1⟩,i0,i1⟩:=LH h
  have HE:=Yh (put_eq o d s t i o0 o1 d0 d1 s0 s1 t0 t1)
  clear h;go_enter Tryz.func36,Tryz.ntmps36
  go_wp2_with fail;refine (wI _ _ _ _ _ _).mono ?_
  rintro e w1 ⟨rfl,hb⟩;rw [H.out];have hp:=aI.below (aI.bM (n:=W.heap.size) W 39 (0,0) #[.int .i64 o,.int .i64 d,.int .i64 s,.int .i64 t,.int .i64 i] rfl) hb (by simp)
  have c0:w1.cell? ⟨W.heap.size,0,none⟩=some (.int .i64 o):=hp.cell 0
  have c1:w1.cell? ⟨W.heap.size,1,none⟩=some (.int .i64 d):=hp.cell 1
  have c2:w1.cell? ⟨W.heap.size,2,none⟩=some (.int .i64 s):=hp.cell 2
  have c3:w1.cell? ⟨W.heap.size,3,none⟩=some (.int .i64 t):=hp.cell 3
  have c4:w1.cell? ⟨W.heap.size,4,none⟩=some (.int .i64 i):=hp.cell 4
  have b1:=((Below.refl _ W).alloc (Nat.le_refl _) (.cells #[.int .i64 o,.int .i64 d,.int .i64 s,.int .i64 t,.int .i64 i] 39)).trans (hb.mono (by simp))
  have HB:=Yh b1
  clear hb b1 hp;go_wp2
  go_ret2
  refine ⟨?_,HB.out⟩
  rw [← HE.out]
  rfl
theorem TU (x:Int) (W:World) (h0:0≤x) (h1:x<4294967296) (hr:Az x=true):
    Calls Tryz.prog 130 #[.int .u32 x] W fun e w'=>e=.returned (.tuple #[AA x,.bool true])∧Below W.heap.size W w':=by
  have HN:=Yh (TQ x h0 h1)
  have HM:=Yh (TP x h0 h1)
  have TV:=Yh (F7 (x / 256) (by omega) (by omega))
  have ko:=Yh (F7 (x / 4096) (by omega) (by omega))
  have TW:=Yh (F7 (x / 65536) (by omega) (by omega))
  have HR:=Yh hr
  clear hr;go_enter Tryz.func130,Tryz.ntmps130
  go_wp2_with fail;rw [HN.out,HM.out,TV.out,ko.out,TW.out,IntWalk.wrap64_in (x % 256) (by omega),IntWalk.wrap64_in (x / 256 % 16) (by omega),IntWalk.wrap64_in (x / 4096 % 16) (by omega),IntWalk.wrap64_in (x / 65536 % 16) (by omega)]
  refine (wI _ _ _ _ _ _).mono ?_
  rintro e w1 ⟨rfl,hb⟩;rw [show jA (x % 256) (x / 256 % 16) (x / 4096 % 16) (x / 65536 % 16) (gI x)=true from HR.out];have hz:=aI.below ((aI.bM (n:=W.heap.size) W 39 (0,0) #[.int .i64 0,.int .i64 0,.int .i64 0,.int .i64 0,.int .i64 0] rfl).alloc _) hb (by simp;omega)
  have hp:=aI.below (aI.bM (n:=W.heap.size+1) _ 39 (0,0) #[.int .i64 (x % 256),.int .i64 (x / 256 % 16),.int .i64 (x / 4096 % 16),.int .i64 (x / 65536 % 16),.int .i64 (gI x)] (by simp)) hb (by simp)
  have z0:w1.cell? ⟨W.heap.size,0,none⟩=some (.int .i64 0):=hz.cell 0
  have z1:w1.cell? ⟨W.heap.size,1,none⟩=some (.int .i64 0):=hz.cell 1
  have z2:w1.cell? ⟨W.heap.size,2,none⟩=some (.int .i64 0):=hz.cell 2
  have z3:w1.cell? ⟨W.heap.size,3,none⟩=some (.int .i64 0):=hz.cell 3
  have z4:w1.cell? ⟨W.heap.size,4,none⟩=some (.int .i64 0):=hz.cell 4
  have zf:=fun j=>Blk.frozen hz j
  have c0:w1.cell? ⟨W.heap.size+1,0,none⟩=some (.int .i64 (x % 256)):=hp.cell 0
  have c1:w1.cell? ⟨W.heap.size+1,1,none⟩=some (.int .i64 (x / 256 % 16)):=hp.cell 1
  have c2:w1.cell? ⟨W.heap.size+1,2,none⟩=some (.int .i64 (x / 4096 % 16)):=hp.cell 2
  have c3:w1.cell? ⟨W.heap.size+1,3,none⟩=some (.int .i64 (x / 65536 % 16)):=hp.cell 3
  have c4:w1.cell? ⟨W.heap.size+1,4,none⟩=some (.int .i64 ((gI x))):=hp.cell 4
  have b1:=(((Below.refl _ W).alloc (Nat.le_refl _) (.cells #[.int .i64 0,.int .i64 0,.int .i64 0,.int .i64 0,.int .i64 0] 39)).alloc (by simp) (.cells #[.int .i64 (x % 256),.int .i64 (x / 256 % 16),.int .i64 (x / 4096 % 16),.int .i64 (x / 65536 % 16),.int .i64 (gI x)] 39)).trans (hb.mono (by simp;omega))
  have HB:=Yh b1
  clear hb b1 hp hz;go_wp2;refine bodyPost_ret (v:=.tuple #[.agg #[.int .i64 (x % 256),.int .i64 (x / 256 % 16),.int .i64 (x / 4096 % 16),.int .i64 (x / 65536 % 16),.int .i64 (gI x)],.bool true]) (by simp [results,Tryz.results130,go_sem,z0,z1,z2,z3,z4]) rfl ⟨rfl,?_⟩
  have hB:=HB.out
  repeat (first|(with_reducible exact hB)|(with_reducible refine Below.drew ?_)|(with_reducible refine Below.setCell ?_ (by simp) _))
end Go.Proofs.YtnebdlchogmneaaGreatDoor
namespace Go.Proofs.YtnebdlchogmneaaGreatDoor
open Go.RowKit Go.Maps
section
variable {W w:World} {os:List Oj} {hg pb me nodes nc np ns k:Nat} {f:Nat→Option Value} {L:bL} {s:aC} {M:List Mp} {T:List Tb}
theorem LK (hK:aT L s M T) {p:Nat} (hp:p<L.ns) {r:Int} (hr:r=0∨r=1∨r=2) (h:aa W (ax L s (aR hg L.sp pb me nodes nc np ns::os)) w):
    Calls Tryz.prog 134 #[.pointer (some ⟨hg,0,none⟩),.int .i64 (p:Int),.agg #[.bool false,.int .i64 r,.slice none 0 0],.slice none 0 0] w fun e w'=>e=.returned (.slice none 0 0)∧∃ s' M' T',aT L s' M' T'∧rH L s s' p r∧aa W (ax L s' (aR hg L.sp pb me nodes nc np ns::os)) w':=by
  have H1:Hid (aa W (ax L s (aR hg L.sp pb me nodes nc np ns::(os++[ae w.heap.size 283 #[.bool false,.int .i64 r,.slice none 0 0]]))) (w.alloc (.cells #[.bool false,.int .i64 r,.slice none 0 0] 283))):=Yh (h.kg #[.bool false,.int .i64 r,.slice none 0 0] 283)
  have bt:Blk (w.alloc (.cells #[.bool false,.int .i64 r,.slice none 0 0] 283)) w.heap.size 283 #[.bool false,.int .i64 r,.slice none 0 0]:=aa.dh (os:=ax L s (aR hg L.sp pb me nodes nc np ns::os)) H1.out
  have bh:=H1.out.drew.blk 10 rfl
  have LM:=bt.drew
  generalize hw1:w.alloc (.cells #[.bool false,.int .i64 r,.slice none 0 0] 283)=w1 at *;have c0:w1.cell? ⟨w.heap.size,0,none⟩=some (.bool false):=bt.cell 0
  have c2:w1.cell? ⟨w.heap.size,2,none⟩=some (.slice none 0 0):=bt.cell 2
  have hlt:=bt.lt
  have s0:∀ W',SameL [hg,w.heap.size] w1.drew W'→W'.cell? ⟨hg,2,none⟩=some (.pointer (some ⟨L.sp,0,none⟩)):=fun W' h=>h.fst.iy bh 2 rfl
  have s1:∀ W',SameL [hg,w.heap.size] w1.drew W'→W'.cell? ⟨w.heap.size,1,none⟩=some (.int .i64 r):=fun W' h=>h.snd.iy LM 1 rfl
  have HS:=Yh (fun (H:aa W (ax L s (aR hg L.sp pb me nodes nc np ns::(os++[ae w.heap.size 283 #[.bool false,.int .i64 r,.slice none 0 0]]))) w1.drew)=>Tx hK H hp hr)
  clear bt bh LM h hK hr hp;go_enter Tryz.func134,Tryz.ntmps134
  go_wp2_with fail;refine wp_loop_rounds 1 ?_
  rw [rounds_succ]
  go_wp2_with fail;refine wp_region_plan_by (SameL [hg,w.heap.size]) (later_same _) [(0,false),(1,false),(2,false),(3,false),(4,false),(5,false),(6,false),(7,true)] (by kernel_rfl) (by kernel_rfl) (fun _ d _ _ _ h=>by cases d <;> exact h) ?_
  iterate 7 (refine plan_take (v:=?_) rfl (by kernel_rfl) ?_ ?_;rotate_left;(focus (intro w' hw';try go_simp;try with_reducible rfl));simp only [Act.put,pa1,pa2,pa3])
  clear s0 s1
  refine plan_call rfl (by kernel_rfl) (by go_simp; exact ⟨rfl, rfl⟩) ?_
  refine (HS.out H1.out.drew).mono ?_
  rintro e w2 ⟨rfl,s',M',T',g1,g2,h2⟩;have H2:Hid (aa W (ax L s' (aR hg L.sp pb me nodes nc np ns::os)) w2):=Yh (aa.ja (os:=ax L s' (aR hg L.sp pb me nodes nc np ns::os)) h2)
  have HE:Hid (SameL [hg,w.heap.size] w1.drew w2):=Yh ((fV (H1.out.drew.blk 10 rfl) (h2.blk 10 rfl)).two (fV (aa.dh (os:=ax L s (aR hg L.sp pb me nodes nc np ns::os)) H1.out.drew) (aa.dh (os:=ax L s' (aR hg L.sp pb me nodes nc np ns::os)) h2)))
  have G1:=Yh g1
  have G2:=Yh g2
  clear h2 g1 g2
  refine ⟨_, rfl, HE.out, ?_⟩
  simp only [Act.put,pa1,pa2,pa3]
  refine aG ?_
  go_wp2_with fail;go_ret
  exact ⟨rfl,s',M',T',G1.out,G2.out,H2.out⟩
end
def nE:Array Value:=#[.int .i64 0,.bool false,.int .i64 0,.int .u16 0,.int .i64 0,.int .u16 0,.bool false,.int .i64 (-1),.int .i64 0]
theorem F8:dO Tryz.prog 100 nE.size=true:=by
  show dO Tryz.prog 100 9=true
  kernel_rfl
theorem TY:nE.all (·.oneCell')=true:=by simp [nE,Value.oneCell']
section
variable {W w:World} {os:List Oj} {hg sp pb me nodes nc np ns k:Nat} {f:Nat→Option Value}
theorem TZ (w:World):Calls Tryz.prog 56 #[.pointer none] w fun e w'=>e=.returned (.agg nE)∧Below w.heap.size w w':=by
  go_enter Tryz.func56,Tryz.ntmps56
  go_wp2_with fail;have hb:Blk (w.alloc (.cells nE 100)) w.heap.size 100 nE:=aI.bM _ _ _ _ rfl
  refine bodyPost_ret (kK Tryz.results56 _ _ w.heap.size 100 nE rfl hb F8) rfl ?_
  exact ⟨rfl,(Below.refl _ _).alloc (Nat.le_refl _) _⟩
theorem T9 (n:Int) (hn:n<0∨(ns:Int)≤n) (h:aa W (aR hg sp pb me nodes nc np ns::os) w):
    Calls Tryz.prog 30 #[.pointer (some ⟨hg,0,none⟩),.int .i64 n] w fun e w'=>e=.returned (.agg nE)∧aa W (aR hg sp pb me nodes nc np ns::os) w':=by
  have H1:=Yh (h.kg nz 100)
  have HP:=Yh (TB n hn H1.out)
  clear h;go_enter Tryz.func30,Tryz.ntmps30
  go_wp2_with fail;refine HP.out.mono ?_
  rintro e w1 ⟨rfl,rfl⟩
  go_wp2_with fail;refine (TZ _).mono ?_
  rintro e w2 ⟨rfl,hb⟩;have H2:=Yh (H1.out.step hb)
  have hbk:Blk w2 w.heap.size 100 nz:=aa.dh (os:=aR hg sp pb me nodes nc np ns::os) H2.out
  have hl:=hbk.lt
  clear H1 HP hb
  go_wp2_with (first|((with_reducible refine wl_store 100 (.tmp 4) (.tmp 8) rfl ?_ w.heap.size 100 nz nE ?_ ?_ hbk ?_ ?_ ?_ ?_); exact rfl; exact rfl; exact rfl; exact rfl; exact F8; exact TY)|fail)
  have HF:aa W ((aR hg sp pb me nodes nc np ns::os)++[ae w.heap.size 100 nE]) _:=aa.bG (xs:=[ae w.heap.size 100 nE]) (bs:=aR hg sp pb me nodes nc np ns::os) ((aa.bG (xs:=aR hg sp pb me nodes nc np ns::os) (bs:=[ae w.heap.size 100 nz]) H2.out).row 0 rfl nE)
  refine bodyPost_ret (kK Tryz.results30 _ _ w.heap.size 100 nE rfl (aa.dh HF) F8) rfl ?_
  exact ⟨rfl,HF.ja⟩
end
section
variable {W w:World} {os:List Oj} {hg pb me nodes nc np ns k g rb:Nat} {f:Nat→Option Value} {L:bL} {s:aC} {M:List Mp} {T:List Tb} {st:eT}
theorem LP (h:aa W (ax L s (aR hg L.sp pb me nodes nc np ns::bA pb k f::os)) w):aa W (aR hg L.sp pb me nodes nc np ns::bA pb k f::(os++ax L s [])) w:=
  aa.bG (xs:=ax L s []) (bs:=aR hg L.sp pb me nodes nc np ns::bA pb k f::os) h
theorem Ua {n:Nat} (h:aa W (aN g rb (me:Int) (n:Int) st (aR hg L.sp pb me nodes nc np ns::bA pb k f::(os++ax L s []))) w):aa W (ax L s (aR hg L.sp pb me nodes nc np ns::bA pb k f::aN g rb (me:Int) (n:Int) st os)) w:=
  aa.permA (xs:=ax L s (aN g rb (me:Int) (n:Int) st [aR hg L.sp pb me nodes nc np ns,bA pb k f])) [0,1,2,3,4,5,6,7,8,9,12,13,10,11]
    (aa.bG (xs:=aN g rb (me:Int) (n:Int) st (aR hg L.sp pb me nodes nc np ns::bA pb k f::os)) (bs:=ax L s []) h) (by decide) (show ∀ i,i∈[0,1,2,3,4,5,6,7,8,9,12,13,10,11]→i<14 by decide)
theorem LQ {n:Int} (h:aa W (ax L s (aR hg L.sp pb me nodes nc np ns::bA pb k f::aN g rb (me:Int) n st os)) w):aa W (aN g rb (me:Int) n st (ax L s (aR hg L.sp pb me nodes nc np ns::bA pb k f::os))) w:=
  aa.permA (xs:=ax L s (aR hg L.sp pb me nodes nc np ns::bA pb k f::aN g rb (me:Int) n st [])) [12,13,0,1,2,3,4,5,6,7,8,9,10,11] h (by decide) (show ∀ i,i∈[12,13,0,1,2,3,4,5,6,7,8,9,10,11]→i<14 by decide)
theorem Ub {n:Int} (h:aa W (aN g rb (me:Int) n st (ax L s (aR hg L.sp pb me nodes nc np ns::bA pb k f::os))) w):aa W (ax L s (aR hg L.sp pb me nodes nc np ns::bA pb k f::aN g rb (me:Int) n st os)) w:=
  aa.permA (xs:=aN g rb (me:Int) n st (ax L s [aR hg L.sp pb me nodes nc np ns,bA pb k f])) [2,3,4,5,6,7,8,9,10,11,12,13,0,1] h (by decide) (show ∀ i,i∈[2,3,4,5,6,7,8,9,10,11,12,13,0,1]→i<14 by decide)
theorem Uc (hK:aT L s M T) {p va:Nat} (hva:va<18446744073709551616) (h1:1073741824≤va) (h2:(va-1073741824) / 4096=p) (hp:p<L.ns) (hns:ns=L.ns) (hn2:2≤nodes) (h16:nodes≤16) (hk:k≤65536) (hown:p % nodes=me) (hf:f p=none)
    (h:aa W (ax L s (aR hg L.sp pb me nodes nc np ns::bA pb k f::os)) w):
    Calls Tryz.prog 86 #[.pointer (some ⟨hg,0,none⟩),.int .u64 (va:Int),.int .i64 2] w fun e w'=>e=.returned (.tuple #[.slice none 0 0,.int .i64 (p:Int)])∧∃ g rb s' M' T',aT L s' M' T'∧rH L s s' p 2 ∧
      aa W (ax L s' (aR hg L.sp pb me nodes nc np ns::bA pb (k+1) (jY f p (some (.pointer (some ⟨g,0,none⟩))))::aN g rb (me:Int) (p:Int) ((jZ (me:Int) (me:Int)).hold 2) os)) w':=by
  have hsl:=hK.ns
  have HW:=Yh (KH va hva h1 (by omega) (by omega) h)
  rw [h2] at HW;have HP:=Yh (TD p (by omega) (by omega) hn2 h16 hk hf (LP h))
  rw [hown] at HP;have hb:=h.blk 10 rfl
  have c2:w.cell? ⟨hg,2,none⟩=some (.pointer (some ⟨L.sp,0,none⟩)):=hb.cell 2
  have hl:=hb.lt
  have HK:=Yh hK
  have F9:=Yh hp
  clear h hb hva h1 h2 hp hns hn2 h16 hk hown hf hsl hK;go_enter Tryz.func86,Tryz.ntmps86
  go_wp2_with fail;refine HW.out.mono ?_
  rintro e w1 ⟨rfl,rfl⟩
  go_wp2_with fail;refine HP.out.mono ?_
  rintro e w1 ⟨g,rb,rfl,h1⟩;have H1:=Yh h1
  clear h1 c2 hl HW HP
  go_wp2_with fail;refine (RY (s:=jZ (me:Int) (me:Int)) rfl (show (0:Int)<2 by decide) (by simp [jZ]) rfl H1.out).mono ?_
  rintro e w2 ⟨rfl,h2⟩;have H2:=Yh (Ua h2)
  clear h2
  go_wp2_with fail;refine (LK HK.out F9.out (.inr (.inr rfl)) H2.out).mono ?_
  rintro e w3 ⟨rfl,s',M',T',g1,g2,h3⟩;have H3:=Yh h3
  have G1:=Yh g1
  have G2:=Yh g2
  clear h3 g1 g2
  go_wp2_with fail
  go_ret2
  exact ⟨rfl,g,rb,s',M',T',G1.out,G2.out,H3.out⟩
theorem Ud (hK:aT L s M T) {p:Nat} (hp:p<L.ns) (hns:ns=L.ns) (hf:f p=some (.pointer (some ⟨g,0,none⟩))) (hfo:st.forget<0) (hr:st.right=0∨st.right=1∨st.right=2)
    (h:aa W (ax L s (aR hg L.sp pb me nodes nc np ns::bA pb k f::aN g rb (me:Int) (p:Int) st os)) w):
    Calls Tryz.prog 133 #[.pointer (some ⟨hg,0,none⟩),.int .i64 (p:Int)] w fun e w'=>e=.returned (.slice none 0 0)∧∃ s' M' T',aT L s' M' T'∧rH L s s' p st.right ∧
      aa W (ax L s' (aR hg L.sp pb me nodes nc np ns::bA pb k f::aN g rb (me:Int) (p:Int) {st with held:=false} os)) w':=by
  have hsl:=hK.ns
  have HP:=Yh (Lx p g (by omega) (by omega) hf (LP h))
  have HD:Hid (Calls Tryz.prog 177 #[.pointer (some ⟨g,0,none⟩)] w fun e w'=>e=.returned (.agg #[.bool false,.int .i64 st.right,.slice none 0 0])∧aa W (aN g rb (me:Int) (p:Int) {st with held:=false} (ax L s (aR hg L.sp pb me nodes nc np ns::bA pb k f::os))) w'):=by
    refine Yh ?_
    cases hh:st.held with
    | true=>exact RZ hh hfo (LQ h)
    | false =>
      have e:({st with held:=false}:eT)=st:=by cases st;simp only at hh;rw [hh]
      rw [e];exact R4 hh (LQ h)
  have HK:=Yh hK
  have F9:=Yh hp
  have HR:=Yh hr
  clear h hp hns hf hfo hr hsl hK;go_enter Tryz.func133,Tryz.ntmps133
  go_wp2_with fail;refine HP.out.mono ?_
  rintro e w1 ⟨rfl,rfl⟩
  go_wp2_with fail;refine HD.out.mono ?_
  rintro e w1 ⟨rfl,h1⟩;have H1:=Yh (Ub h1)
  clear h1
  go_wp2_with fail;refine (LK HK.out F9.out HR.out H1.out).mono ?_
  rintro e w3 ⟨rfl,s',M',T',g1,g2,h3⟩;have H3:=Yh h3
  have G1:=Yh g1
  have G2:=Yh g2
  clear h3 g1 g2
  go_wp2_with fail;go_ret
  exact ⟨rfl,s',M',T',G1.out,G2.out,H3.out⟩
end
section
variable {W w:World} {os:List Oj} {hg pb me nodes nc np ns k g rb:Nat} {f:Nat→Option Value} {L:bL} {s:aC} {M:List Mp} {T:List Tb} {st:eT}
theorem Ue (gm n:Nat) (w:World) (c:w.cell? ⟨gm,1,none⟩=some (.int .i64 (n:Int))):Calls Tryz.prog 128 #[.pointer (some ⟨gm,0,none⟩)] w fun e w'=>e=.returned (.int .i64 (n:Int))∧w=w':=by
  have hl:gm<w.heap.size:=cB c
  go_enter Tryz.func128,Tryz.ntmps128
  go_wp2_with fail;go_ret
  exact ⟨rfl,rfl⟩
theorem Uf (sp gm n:Nat) (w:World) (c1:w.cell? ⟨sp,3,none⟩=some (.pointer (some ⟨gm,0,none⟩))) (c2:w.cell? ⟨gm,1,none⟩=some (.int .i64 (n:Int))):Calls Tryz.prog 81 #[.pointer (some ⟨sp,0,none⟩)] w fun e w'=>e=.returned (.int .i64 (n:Int))∧w=w':=by
  have hl:sp<w.heap.size:=cB c1
  have HM:=Yh (Ue gm n w c2)
  clear c2;go_enter Tryz.func81,Tryz.ntmps81
  go_wp2_with fail;refine HM.out.mono ?_
  rintro e w1 ⟨rfl,rfl⟩
  go_wp2_with fail;go_ret
  exact ⟨rfl,rfl⟩
theorem aa.Ug (h:aa W (ax L s os) w):w.cell? ⟨L.gm,1,none⟩=some (.int .i64 (L.n:Int)):=by
  obtain ⟨F,hF,_⟩:=h.get 3 _ rfl
  obtain ⟨mb,loc,K,hm,_⟩:=hF
  exact hm.head.cell 1
theorem Uh (hn:L.n=nc+np+ns+5) (h1:1≤nc) (h2:nc≤16) (h3:np≤16) (h4:1≤ns) (h5:ns≤512) (hn2:2≤nodes) (h16:nodes≤16) (hme:me<nodes) (h:aa W (ax L s os) w):
    Calls Tryz.prog 46 #[.int .i64 (me:Int),.int .i64 (nodes:Int),.pointer (some ⟨L.sp,0,none⟩),.agg #[.int .i64 (nc:Int),.int .i64 (np:Int),.int .i64 (ns:Int)]] w fun e w'=>∃ hg pb,e=.returned (.tuple #[.pointer (some ⟨hg,0,none⟩),.int .i64 0]) ∧
      aa W (ax L s (aR hg L.sp pb me nodes nc np ns::bA pb 0 (fun _=>none)::os)) w':=by
  have H1:Hid (aa W (ax L s (os++[ae w.heap.size 126 #[.int .i64 (nc:Int),.int .i64 (np:Int),.int .i64 (ns:Int)]])) (w.alloc (.cells #[.int .i64 (nc:Int),.int .i64 (np:Int),.int .i64 (ns:Int)] 126))):=Yh (h.kg _ _)
  have bs:Blk (w.alloc (.cells #[.int .i64 (nc:Int),.int .i64 (np:Int),.int .i64 (ns:Int)] 126)) w.heap.size 126 #[.int .i64 (nc:Int),.int .i64 (np:Int),.int .i64 (ns:Int)]:=aa.dh (os:=ax L s os) H1.out
  generalize hw1:w.alloc (.cells #[.int .i64 (nc:Int),.int .i64 (np:Int),.int .i64 (ns:Int)] 126)=w1 at *;have Ga:=H1.out.blk 0 rfl
  have cm:=H1.out.Ug
  have lm:=cB cm
  have bs':=bs.drew
  have HF:=Yh (fun W' (h:Ext w1.drew W')=>Uf L.sp L.gm L.n W' ((h.cell (p:=⟨L.sp,3,none⟩) Ga.drew.lt).trans (Ga.drew.cell 3)) ((h.cell (p:=⟨L.gm,1,none⟩) lm).trans cm))
  have HN:=Yh (fun W'=>KO nc np ns W' h1 h2 h3 h4 h5)
  have t0:∀ W',Ext w1.drew W'→W'.cell? ⟨w.heap.size,0,none⟩=some (.int .i64 (nc:Int)):=fun W' h=>(h.cell (p:=⟨w.heap.size,0,none⟩) bs'.lt).trans (bs'.cell 0)
  have t1:∀ W',Ext w1.drew W'→W'.cell? ⟨w.heap.size,1,none⟩=some (.int .i64 (np:Int)):=fun W' h=>(h.cell (p:=⟨w.heap.size,1,none⟩) bs'.lt).trans (bs'.cell 1)
  have t2:∀ W',Ext w1.drew W'→W'.cell? ⟨w.heap.size,2,none⟩=some (.int .i64 (ns:Int)):=fun W' h=>(h.cell (p:=⟨w.heap.size,2,none⟩) bs'.lt).trans (bs'.cell 2)
  have d1:decide ((nodes:Int)<2)=false:=by simp;omega
  have d2:decide ((16:Int)<(nodes:Int))=false:=by simp;omega
  have d3:decide ((me:Int)<0)=false:=by simp
  have d4:decide ((nodes:Int)≤(me:Int))=false:=by simp;omega
  have d5:decide ((L.n:Int)<((nc+np+ns+5:Nat):Int))=false:=by simp;omega
  have hmm:=@run_makeMap Tryz.prog
  clear h bs Ga cm lm bs' h1 h2 h3 h4 h5 hn2 h16 hme hn;generalize hA:((nc+np+ns+5:Nat):Int)=A at *;generalize hB:(L.n:Int)=B at *;generalize hC:(me:Int)=C at *;generalize hD:(nodes:Int)=D at *;generalize hE:(nc:Int)=E at *;generalize hG:(np:Int)=G at *;generalize hI:(ns:Int)=I at *;have HC:=Yh hC
  have HD:=Yh hD
  have HE:=Yh hE
  have HG:=Yh hG
  have HI:=Yh hI
  clear hA hB hC hD hE hG hI;go_enter Tryz.func46,Tryz.ntmps46
  go_wp2_with fail
  refine wp_region_plan [(0, false), (1, false), (2, false), (3, true), (4, false), (5, false)] (by kernel_rfl) (by kernel_rfl) (fun _ d _ _ _ h => by cases d <;> exact h) ?_
  iterate 1 (refine plan_take (v:=?_) rfl (by kernel_rfl) ?_ ?_;rotate_left;(focus (intro w' hw';try go_simp;try with_reducible rfl));simp only [Act.put,pa1,pa2,pa3])
  refine plan_quiet rfl (by kernel_rfl) (fun w' => by go_simp; all_goals (first | exact ⟨rfl, rfl⟩ | rfl)) (fun w' hw' => (HF.out w' hw')) ?_
  simp only [Act.put,pa1,pa2,pa3]
  iterate 1 (refine plan_take (v:=?_) rfl (by kernel_rfl) ?_ ?_;rotate_left;(focus (intro w' hw';try go_simp;try with_reducible rfl));simp only [Act.put,pa1,pa2,pa3])
  refine plan_call rfl (by kernel_rfl) (by go_simp; exact ⟨rfl, rfl⟩) ?_
  refine (HN.out _).mono ?_
  rintro e w2 ⟨rfl,hb2⟩;have H2:=Yh (H1.out.drew.step hb2)
  refine ⟨_, rfl, hb2, ?_⟩
  simp only [Act.put,pa1,pa2,pa3]
  iterate 2 (refine plan_take (v:=?_) rfl (by kernel_rfl) ?_ ?_;rotate_left;(focus (intro w' hw';try go_simp;try with_reducible rfl));simp only [Act.put,pa1,pa2,pa3])
  refine aG ?_
  clear t0 t1 t2 HF HN hb2;have bs:Blk w2 w.heap.size 126 #[.int .i64 E,.int .i64 G,.int .i64 I]:=aa.dh (os:=ax L s os) H2.out
  have t0:w2.cell? ⟨w.heap.size,0,none⟩=some (.int .i64 E):=bs.cell 0
  have t1:w2.cell? ⟨w.heap.size,1,none⟩=some (.int .i64 G):=bs.cell 1
  have t2:w2.cell? ⟨w.heap.size,2,none⟩=some (.int .i64 I):=bs.cell 2
  have hlt:=bs.lt
  have H3:=Yh (H2.out.Kn .i64 3 (.pointer none))
  clear bs hw1;generalize hrb:w.heap.size=rb at *;clear hrb
  go_wp2_with fail
  go_ret2
  refine ⟨w2.heap.size+1,w2.heap.size,rfl,?_⟩
  have H4:=H3.out.push #[.int .i64 C,.int .i64 D,.pointer (some ⟨L.sp,0,none⟩),.int .i64 E,.int .i64 G,.int .i64 I,.map (some w2.heap.size)] 197 (b:=w2.heap.size+1) (by simp)
  have eh:F4 L.sp w2.heap.size me nodes nc np ns=#[.int .i64 C,.int .i64 D,.pointer (some ⟨L.sp,0,none⟩),.int .i64 E,.int .i64 G,.int .i64 I,.map (some w2.heap.size)]:=by
    unfold F4;rw [HC.out,HD.out,HE.out,HG.out,HI.out]
  have H5:aa W (ax L s (aR (w2.heap.size+1) L.sp w2.heap.size me nodes nc np ns::bA w2.heap.size 0 (fun _=>none)::os)++[ae rb 126 #[.int .i64 E,.int .i64 G,.int .i64 I]]) ((w2.alloc (.map #[] 0)).alloc (.cells #[.int .i64 C,.int .i64 D,.pointer (some ⟨L.sp,0,none⟩),.int .i64 E,.int .i64 G,.int .i64 I,.map (some w2.heap.size)] 197)):=by
    unfold aR;rw [eh];exact aa.permA (xs:=ae (w2.heap.size+1) 197 #[.int .i64 C,.int .i64 D,.pointer (some ⟨L.sp,0,none⟩),.int .i64 E,.int .i64 G,.int .i64 I,.map (some w2.heap.size)]::bA w2.heap.size 0 (fun _=>none)::ax L s []) [2,3,4,5,6,7,8,9,10,11,0,1] H4 (by decide) (show ∀ i,i∈[2,3,4,5,6,7,8,9,10,11,0,1]→i<12 by decide)
  exact aa.ja H5
theorem Ui (n:Nat) (hn:n<ns) (hs:ns≤65536) (hf:f n=some (.pointer (some ⟨g,0,none⟩))) (sp:Nat) (h:aa W (aN g rb (me:Int) (n:Int) st (aR hg sp pb me nodes nc np ns::bA pb k f::os)) w):
    Calls Tryz.prog 30 #[.pointer (some ⟨hg,0,none⟩),.int .i64 (n:Int)] w fun e w'=>e=.returned (.agg (st.st 0))∧aa W (aN g rb (me:Int) (n:Int) st (aR hg sp pb me nodes nc np ns::bA pb k f::os)) w':=by
  have H1:Hid (aa W (aN g rb (me:Int) (n:Int) st (aR hg sp pb me nodes nc np ns::bA pb k f::(os++[ae w.heap.size 100 nz]))) (w.alloc (.cells nz 100))):=Yh (h.kg nz 100)
  have HP:=Yh (Lx n g hn hs hf (os:=(os++[ae w.heap.size 100 nz])++aN g rb (me:Int) (n:Int) st []) (aa.bG (xs:=aN g rb (me:Int) (n:Int) st []) (bs:=aR hg sp pb me nodes nc np ns::bA pb k f::(os++[ae w.heap.size 100 nz])) H1.out))
  clear h hn hs hf;generalize hni:(n:Int)=ni at *;clear hni;go_enter Tryz.func30,Tryz.ntmps30
  go_wp2_with fail;refine HP.out.mono ?_
  rintro e w1 ⟨rfl,rfl⟩
  go_wp2_with fail;refine (R3 H1.out).mono ?_
  rintro e w2 ⟨rfl,h2⟩;have H2:=Yh h2
  have hbk:Blk w2 w.heap.size 100 nz:=aa.dh (os:=aN g rb (me:Int) ni st (aR hg sp pb me nodes nc np ns::bA pb k f::os)) h2
  have hl:=hbk.lt
  clear H1 HP h2
  go_wp2_with (first|((with_reducible refine wl_store 100 (.tmp 4) (.tmp 8) rfl ?_ w.heap.size 100 nz (st.st 0) ?_ ?_ hbk ?_ ?_ ?_ ?_); exact rfl; exact rfl; exact rfl; exact rfl; exact Ah _ _; exact Ky _ _)|fail)
  have HF:aa W ((aN g rb (me:Int) ni st (aR hg sp pb me nodes nc np ns::bA pb k f::os))++[ae w.heap.size 100 (st.st 0)]) _:=aa.bG (xs:=[ae w.heap.size 100 (st.st 0)]) (bs:=aN g rb (me:Int) ni st (aR hg sp pb me nodes nc np ns::bA pb k f::os)) ((aa.bG (xs:=aN g rb (me:Int) ni st (aR hg sp pb me nodes nc np ns::bA pb k f::os)) (bs:=[ae w.heap.size 100 nz]) H2.out).row 0 rfl (st.st 0))
  refine bodyPost_ret (kK Tryz.results30 _ _ w.heap.size 100 (st.st 0) rfl (aa.dh HF) (Ah _ _)) rfl ?_
  exact ⟨rfl,HF.ja⟩
end
end Go.Proofs.YtnebdlchogmneaaGreatDoor
namespace Go.Proofs.YtnebdlchogmneaaGreatDoor
open Go.RowKit
theorem Uj (n:Int) (W:World):Calls Tryz.prog 229 #[.int .i64 n] W fun e w'=>e=.returned (.bool (decide (0≤n)&&decide (n<16)))∧W=w':=by
  cases e1:decide (0≤n) with
  | false =>
    go_enter Tryz.func229,Tryz.ntmps229
    go_wp2_with fail;go_ret
    exact ⟨rfl,rfl⟩
  | true =>
    go_enter Tryz.func229,Tryz.ntmps229
    go_wp2_with fail;go_ret
    exact ⟨rfl,rfl⟩
def aW (g:Nat) (c:aD):Oj:=ae g 93 c.cs
section
variable {W w:World} {os:List Oj} {g:Nat} {c:aD}
theorem aa.stay {O:Oj} (h:aa W os w) {i:Nat} (hi:os[i]? = some O):aa W (os.set i O) w:=by
  rw [show os.set i O=os from List.ext_getElem? fun j=>by
    by_cases e:i=j
    · subst e
      rw [List.getElem?_set_self (List.getElem?_eq_some_iff.1 hi).1,hi]
    · rw [List.getElem?_set_ne e]]
  exact h
theorem aa.set1 {t:TypeId} {cs:Array Value} (h:aa W os w) (i:Nat) {b:Nat} (hi:os[i]? = some (ae b t cs)) (j:Nat) (u:Value):aa W (os.set i (ae b t (cs.setIfInBounds j u))) (w.setCell ⟨b,j,none⟩ u)∧Below W.heap.size w (w.setCell ⟨b,j,none⟩ u):=by
  have h1:=h.wrote i hi ((h.blk i hi).ay j u) ((az.refl (fun x=>x=b) w).setCell (p:=⟨b,j,none⟩) (.inl rfl) u)
  exact ⟨h1.1,h1.2⟩
theorem wJ (hc:c.Ok) (h:aa W os w) (i:Nat) (hi:os[i]? = some (aW g c)):Calls Tryz.prog 14 #[.pointer (some ⟨g,0,none⟩)] w fun e w'=>e=.returned (.int .i64 c.run)∧w=w':=by
  have hb:=h.blk i hi
  have c2:w.cell? ⟨g,17,none⟩=some (.int .i64 c.run):=(hb.cell 17).trans (aD.sK hc 1)
  have hl:=hb.lt
  clear h hb hi;go_enter Tryz.func14,Tryz.ntmps14
  go_wp2_with fail;go_ret
  exact ⟨rfl,rfl⟩
theorem CP (hc:c.Ok) (n:Int) (v:Nat) (h:aa W os w) (i:Nat) (hi:os[i]? = some (aW g c)):Calls Tryz.prog 176 #[.pointer (some ⟨g,0,none⟩),.int .i64 n,.int .u64 (v:Int)] w fun e w'=>e=.returned (.tuple #[])∧aa W (os.set i (aW g (c.cO n v))) w'∧Below W.heap.size w w':=by
  have hb:=h.blk i hi
  have hl:=hb.lt
  have HR:=Yh (Uj n)
  have H:=Yh h
  have HC:=Yh hc
  have HI:=Yh hi
  by_cases hn:0≤n∧n<16
  · obtain ⟨k,rfl⟩:∃ k:Nat,n=(k:Int):=⟨n.toNat,by omega⟩
    have hk:k<16:=by omega
    rw [show (decide (0≤(k:Int))&&decide ((k:Int)<16))=true by simp;omega] at HR
    by_cases h0:k=0
    · subst h0
      have e1:c.cO ((0:Nat):Int) v=c:=by unfold aD.cO;rw [if_neg (by omega)]
      rw [e1];clear h hb hc hi;go_enter Tryz.func176,Tryz.ntmps176
      go_wp2_with fail;refine (HR.out _).mono ?_
      rintro e w1 ⟨rfl,rfl⟩
      go_wp2_with fail;refine bodyPost_end (results_none rfl _ _ _) rfl ?_
      exact ⟨rfl,H.out.stay HI.out,Below.refl _ _⟩
    · have e1:c.cO (k:Int) v = {c with r:=c.r.set k v}:=by unfold aD.cO;rw [if_pos (by omega)];rfl
      have e2:=aD.RH (v:=v) HC.out hk
      have cr:w.cell? ⟨g,k,none⟩=some (jP (c.r.getD k 0)):=(hb.cell k).trans (aD.sJ hc hk)
      have hfr:=fun i=>Blk.frozen hb i
      have HS:=Yh (h.set1 i hi k (jP v))
      rw [e1];unfold aW;rw [← e2];have n0:((k:Int)==0)=false:=by simp;omega
      have kk:(k:Int)<16:=by omega
      generalize c.r.getD k 0=x at *;clear h hb hc hi hn e1 e2;go_enter Tryz.func176,Tryz.ntmps176
      go_wp2_with fail;refine (HR.out _).mono ?_
      rintro e w1 ⟨rfl,rfl⟩
      go_wp2_with fail;refine bodyPost_end (results_none rfl _ _ _) rfl ?_
      exact ⟨rfl,HS.out⟩
  · have e1:c.cO n v=c:=by unfold aD.cO;rw [if_neg (by omega)]
    rw [e1];rw [show (decide (0≤n)&&decide (n<16))=false by simp;omega] at HR
    clear h hb hc hi;go_enter Tryz.func176,Tryz.ntmps176
    go_wp2_with fail;refine (HR.out _).mono ?_
    rintro e w1 ⟨rfl,rfl⟩
    go_wp2_with fail;refine bodyPost_end (results_none rfl _ _ _) rfl ?_
    exact ⟨rfl,H.out.stay HI.out,Below.refl _ _⟩
end
theorem LU {a:Nat} (h:a<18446744073709551616):IntKind.i64.wrap (a:Int)=uJ a:=by
  rw [IntKind.wrap_i64];unfold uJ;split <;> omega
theorem AB (x:Int):IntKind.u64.wrap x=(wd x:Int):=by rw [IntKind.wrap_u64];unfold wd;omega
theorem Uk (o:Int) (a b:Nat) (W:World) (ha:a<18446744073709551616) (hb:b<18446744073709551616):
    Calls Tryz.prog 226 #[.int .i64 o,.int .u64 (a:Int),.int .u64 (b:Int)] W fun e w'=>e=.returned (.bool (nS o a b))∧W=w':=by
  have sa:=LU ha
  have sb:=LU hb
  by_cases h1:o=15
  · subst h1
    have e:((a:Int)==(b:Int))=nS 15 a b:=by unfold nS;rw [if_pos rfl,Bool.eq_iff_iff];simp only [beq_iff_eq];omega
    clear ha hb sa sb;go_enter Tryz.func226,Tryz.ntmps226
    go_wp2_with fail;go_ret
    rw [← e];exact ⟨rfl,rfl⟩
  by_cases h2:o=16
  · subst h2
    have e:((a:Int) != (b:Int))=nS 16 a b:=by unfold nS;rw [if_neg (by decide),if_pos rfl,Bool.eq_iff_iff];simp only [bne_iff_ne];omega
    clear ha hb sa sb;go_enter Tryz.func226,Tryz.ntmps226
    go_wp2_with fail;go_ret
    rw [← e];exact ⟨rfl,rfl⟩
  by_cases h3:o=17
  · subst h3
    have e:decide (uJ a<uJ b)=nS 17 a b:=by unfold nS;rw [if_neg (by decide),if_neg (by decide),if_pos rfl]
    clear ha hb;go_enter Tryz.func226,Tryz.ntmps226
    go_wp2_with fail;go_ret
    rw [← e];exact ⟨rfl,rfl⟩
  have e:(o==18)=nS o a b:=by unfold nS;rw [if_neg h1,if_neg h2,if_neg h3]
  have e1:(o==15)=false:=by simp [h1]
  have e2:(o==16)=false:=by simp [h2]
  have e3:(o==17)=false:=by simp [h3]
  clear ha hb sa sb h1 h2 h3;go_enter Tryz.func226,Tryz.ntmps226
  go_wp2_with fail;go_ret
  rw [← e];exact ⟨rfl,rfl⟩
def aD.to (c:aD) (p:Nat):aD:={c with pc:=p}
def mJ (c:aD) (o rd:Int) (rs rt:Nat) (ah:Int):aD:=
  let c1:=c.to (if nS o (c.r.getD rs 0) (c.r.getD rt 0) then wd (c.pc+4*ah) else wd (c.pc+4))
  if o=18 then c1.cO rd (wd (c.pc+4)) else c1
theorem aD.Ok.to {c:aD} (h:c.Ok) {p:Nat} (hp:p<18446744073709551616):(c.to p).Ok:=⟨h.len,h.lt,hp⟩
section
variable {W w:World} {os:List Oj} {g:Nat} {c:aD}
theorem Ul (hc:c.Ok) (o rd:Int) (rs rt:Nat) (ah:Int) (hs:rs<16) (ht:rt<16) (h:aa W (aW g c::os) w):
    Calls Tryz.prog 174 #[.pointer (some ⟨g,0,none⟩),.agg #[.int .i64 o,.int .i64 rd,.int .i64 (rs:Int),.int .i64 (rt:Int),.int .i64 ah]] w fun e w'=>e=.returned (.tuple #[])∧aa W (aW g (mJ c o rd rs rt ah)::os) w':=by
  have h1:=h.push #[.int .i64 o,.int .i64 rd,.int .i64 (rs:Int),.int .i64 (rt:Int),.int .i64 ah] 39 rfl
  have H1:=Yh h1
  have hb:=h1.blk 1 rfl
  have hl:=hb.lt
  have hi:=h1.blk 0 rfl
  have hlt:=fun i=>hc.lt i
  have HT:=Yh (fun W=>Uk o (c.r.getD rs 0) (c.r.getD rt 0) W (hlt rs) (hlt rt))
  have c16:(w.alloc (.cells #[.int .i64 o,.int .i64 rd,.int .i64 (rs:Int),.int .i64 (rt:Int),.int .i64 ah] 39)).cell? ⟨g,16,none⟩=some (.int .u64 (c.pc:Int)):=(hb.cell 16).trans (aD.sK hc 0)
  have hE:∀ i v,c.cs[i]? = some v→∀ W',Ext (w.alloc (.cells #[.int .i64 o,.int .i64 rd,.int .i64 (rs:Int),.int .i64 (rt:Int),.int .i64 ah] 39)).drew W'→W'.cell? ⟨g,i,none⟩=some v:=fun i v hv W' h=>(h.cell (p:=⟨g,i,none⟩) hl).trans ((hb.cell i).trans hv)
  have s1:=hE rs _ (aD.sJ hc hs)
  have s2:=hE rt _ (aD.sJ hc ht)
  have i0:∀ W',Ext (w.alloc (.cells #[.int .i64 o,.int .i64 rd,.int .i64 (rs:Int),.int .i64 (rt:Int),.int .i64 ah] 39)).drew W'→∀ j,W'.cell? ⟨w.heap.size,j,none⟩=#[Value.int .i64 o,.int .i64 rd,.int .i64 (rs:Int),.int .i64 (rt:Int),.int .i64 ah][j]?:=fun W' h j=>(h.cell (p:=⟨w.heap.size,j,none⟩) hi.lt).trans (hi.cell j)
  have k1:(rs:Int)<16:=by omega
  have k2:(rt:Int)<16:=by omega
  have HC:=Yh hc
  have hfr:=fun i=>Blk.frozen hb i
  clear h h1 hb hi hc hlt hE;go_enter Tryz.func174,Tryz.ntmps174
  go_wp2_with fail
  refine wp_region_plan [(0, false), (1, false), (2, false), (3, false), (4, false), (5, false), (6, false), (7, false), (8, false), (9, false), (10, false), (11, false), (12, false), (13, false), (14, false), (15, false), (16, false)] (by kernel_rfl) (by kernel_rfl) (fun _ d _ _ _ h => by cases d <;> exact h) ?_
  iterate 16 (refine plan_take (v:=?_) rfl (by kernel_rfl) ?_ ?_;rotate_left;(focus (intro w' hw';try go_simp;try with_reducible rfl));simp only [Act.put,pa1,pa2,pa3])
  refine plan_quiet rfl (by kernel_rfl) (fun w' => by go_simp; all_goals (first | exact ⟨rfl, rfl⟩ | rfl)) (fun w' hw' => HT.out w') ?_
  simp only [Act.put,pa1,pa2,pa3]
  clear s1 s2 hfr;refine aG ?_
  have H2:=Yh H1.out.drew
  generalize HX:(w.alloc (.cells #[.int .i64 o,.int .i64 rd,.int .i64 (rs:Int),.int .i64 (rt:Int),.int .i64 ah] 39)).drew=x at *;have i1:=i0 x (Ext.refl _)
  have j0:=i1 0
  have j1:=i1 1
  have j4:=i1 4
  simp only [List.getElem?_toArray,List.getElem?_cons_zero,List.getElem?_cons_succ] at j0 j1 j4
  have hb:=H2.out.blk 1 rfl
  have hl2:=hb.lt
  have d16:x.cell? ⟨g,16,none⟩=some (.int .u64 (c.pc:Int)):=(hb.cell 16).trans (aD.sK HC.out 0)
  have hfr:=fun i=>Blk.frozen hb i
  clear hb c16 hl i0 i1;have e1:IntKind.u64.wrap ((c.pc:Int)+IntKind.u64.wrap (IntKind.u64.wrap ah*4))=(wd (c.pc+4*ah):Int):=by
    rw [IntKind.wrap_u64,IntKind.wrap_u64,IntKind.wrap_u64];unfold wd;omega
  have e2:IntKind.u64.wrap ((c.pc:Int)+4)=(wd (c.pc+4):Int):=AB _
  cases ht:nS o (c.r.getD rs 0) (c.r.getD rt 0) with
  | false =>
    by_cases h18:o=18
    · subst h18
      go_wp2_with fail;have HS:=Yh (H2.out.ay 1 rfl 16 (jP (wd (c.pc+4))))
      rw [aD.vZ HC.out] at HS;refine (CP (c:=c.to (wd (c.pc+4))) (HC.out.to (ny _)) rd (wd (c.pc+4)) HS.out 1 rfl).mono ?_
      rintro e w1 ⟨rfl,h1,_⟩;have HN:=Yh h1
      clear h1
      go_wp2_with fail;refine bodyPost_end (results_none rfl _ _ _) rfl ?_
      refine ⟨rfl,?_⟩
      unfold mJ;rw [ht];exact HN.out.drop 1
    · have n18:(o==18)=false:=by simp [h18]
      go_wp2_with fail;have HS:=Yh (H2.out.ay 1 rfl 16 (jP (wd (c.pc+4))))
      rw [aD.vZ HC.out] at HS;refine bodyPost_end (results_none rfl _ _ _) rfl ?_
      refine ⟨rfl,?_⟩
      unfold mJ;rw [ht,if_neg h18];exact HS.out.drop 1
  | true =>
    by_cases h18:o=18
    · subst h18
      go_wp2_with fail;have HS:=Yh (H2.out.ay 1 rfl 16 (jP (wd (c.pc+4*ah))))
      rw [aD.vZ HC.out] at HS;refine (CP (c:=c.to (wd (c.pc+4*ah))) (HC.out.to (ny _)) rd (wd (c.pc+4)) HS.out 1 rfl).mono ?_
      rintro e w1 ⟨rfl,h1,_⟩;have HN:=Yh h1
      clear h1
      go_wp2_with fail;refine bodyPost_end (results_none rfl _ _ _) rfl ?_
      refine ⟨rfl,?_⟩
      unfold mJ;rw [ht];exact HN.out.drop 1
    · have n18:(o==18)=false:=by simp [h18]
      go_wp2_with fail;have HS:=Yh (H2.out.ay 1 rfl 16 (jP (wd (c.pc+4*ah))))
      rw [aD.vZ HC.out] at HS;refine bodyPost_end (results_none rfl _ _ _) rfl ?_
      refine ⟨rfl,?_⟩
      unfold mJ;rw [ht,if_neg h18];exact HS.out.drop 1
end
def wK (o:Int) (v:Nat):Nat:=if nT o then vT v (dJ o) else v
theorem Um (o:Int) (v:Nat) (W:World) (hv:v<18446744073709551616):
    Calls Tryz.prog 225 #[.int .i64 o,.int .u64 (v:Int)] W fun e w'=>e=.returned (.int .u64 (wK o v:Nat))∧W=w':=by
  have H1:=Yh (RP o)
  have H2:=Yh (Fu o)
  have H3:=Yh (fun W=>Uo v (dJ o) W hv)
  unfold wK;clear hv
  cases e:nT o with
  | true =>
    rw [e] at H1;go_enter Tryz.func225,Tryz.ntmps225
    go_wp2_with fail;refine (H1.out _).mono ?_
    rintro e w1 ⟨rfl,rfl⟩
    go_wp2_with fail;refine (H2.out _).mono ?_
    rintro e w1 ⟨rfl,rfl⟩
    go_wp2_with fail;refine (H3.out _).mono ?_
    rintro e w1 ⟨rfl,rfl⟩
    go_wp2_with fail;go_ret
    exact ⟨rfl,rfl⟩
  | false =>
    rw [e] at H1;go_enter Tryz.func225,Tryz.ntmps225
    go_wp2_with fail;refine (H1.out _).mono ?_
    rintro e w1 ⟨rfl,rfl⟩
    go_wp2_with fail;go_ret
    exact ⟨rfl,rfl⟩
theorem Uq (o rd rs rt ah:Int) (a b:Nat) (W:World) (ho:o=1∨o=2∨o=3) (ha:a<18446744073709551616):
    Calls Tryz.prog 175 #[.agg #[.int .i64 o,.int .i64 rd,.int .i64 rs,.int .i64 rt,.int .i64 ah],.int .u64 (a:Int),.int .u64 (b:Int)] W fun e w'=>e=.returned (.tuple #[.int .u64 (fA o ah a b 0:Nat),.bool true])∧W.alloc (.cells #[.int .i64 o,.int .i64 rd,.int .i64 rs,.int .i64 rt,.int .i64 ah] 39)=w':=by
  have e1:IntKind.u64.wrap ah=(wd ah:Int):=AB _
  rcases ho with rfl|rfl|rfl
  · have e2:fA 1 ah a b 0=wd ah:=rfl
    rw [e2];go_enter Tryz.func175,Tryz.ntmps175
    go_wp2_with fail
    go_ret2
    exact ⟨rfl,rfl⟩
  · have e2:fA 2 ah a b 0=wd ((a:Int)+ah):=rfl
    have e3:IntKind.u64.wrap ((a:Int)+IntKind.u64.wrap ah)=(wd ((a:Int)+ah):Int):=by
      rw [IntKind.wrap_u64,IntKind.wrap_u64];unfold wd;omega
    rw [e2];clear e1;go_enter Tryz.func175,Tryz.ntmps175
    go_wp2_with fail
    go_ret2
    exact ⟨rfl,rfl⟩
  · have e2:fA 3 ah a b 0=(a*2 ^ (wd ah % 64)) % 18446744073709551616:=rfl
    have e3:bits .and .u64 (wd ah:Int) 63=((wd ah % 64:Nat):Int):=by
      rw [show (63:Int)=((63:Nat):Int) from rfl,bits_and_u64_nat _ _ (ny _) (by decide),show (63:Nat)=2 ^ 6-1 from rfl,Nat.and_two_pow_sub_one_eq_mod]
    go_enter Tryz.func175,Tryz.ntmps175
    go_wp2_with fail
    go_ret2
    exact ⟨rfl,rfl⟩
end Go.Proofs.YtnebdlchogmneaaGreatDoor
