/- Texts of the proof: WordA, WordP, WordB, WordD, Reads, Plan, Open, Mem, Byte. -/
import Derived.Test.YtnebdlchogmneaaGreatDoorRows
import Derived.WalkKit
import Derived.WalkSpells
import Derived.WalkLawsBesides
import Derived.Handy
import Derived.BigQuiet
import Derived.Lib.Hide
import Derived.IntWalk
import Derived.Laws.BitsAllLaws
import Derived.Laws.Bits64b
import Derived.Laws.MakeOwn
import Derived.Below
import Derived.Laws.OwnMore
import Derived.Deep.AppendLies
import Derived.Deep.Draws
import Derived.Maps.AppendAt
import Derived.RegionTactic
import Derived.OwnWalk
import Derived.OrdersHeld
import Derived.ChangeArms
import Derived.WideShapes
import Derived.OpenShut
import Derived.ShutString
import Derived.ProofKit
import Derived.Laws.BytesArg
import Derived.Laws.Cover3
set_option maxRecDepth 100000
set_option maxHeartbeats 8000000
set_option linter.unusedVariables false
set_option linter.unusedSimpArgs false
namespace Go.Proofs.YtnebdlchogmneaaGreatDoor
theorem Yh {p : Prop} (h : p) : Go.RowKit.Hid p := Lib.hid h
theorem pa1 {α : Type} {l : List α} {i : Nat} {a : α} : l.toArray.setIfInBounds i a = (l.set i a).toArray := List.setIfInBounds_toArray ..
theorem pa2 {α : Type} {l : List α} {a b : α} : (a :: l).set 0 b = b :: l := rfl
theorem pa3 {α : Type} {l : List α} {n : Nat} {a b : α} : (a :: l).set (n + 1) b = a :: l.set n b := rfl
open Go.RowKit
def dW (n:Int):Bool:=n==1||n==2||n==4||n==8
theorem ug {n:Int} (h:dW n=true):n=1∨n=2∨n=4∨n=8:=by
  simp [dW] at h;omega
theorem P7 {n:Int} (h:dW n=false):n≠1∧n≠2∧n≠4∧n≠8:=by
  simp [dW] at h;omega
theorem uh (n:Int) (w:World):
    Calls Tryz.prog 67 #[.int .i64 n] w fun e w'=>e=.returned (.bool (dW n))∧w=w':=by
  unfold dW;go_enter Tryz.func67,Tryz.ntmps67;go_wp2
  all_goals (go_ret;refine ⟨?_,rfl⟩;first|rfl|(simp [*];done)|(simp [*];omega))
def qa (n a s:Int):Bool:=dW s&&(decide (0≤a)&&(decide (a≤n)&&decide (s≤n-a)))
theorem I9 (A:Option Addr) (n c:Nat) (a s:Int) (w:World) (hn:n≤9223372036854775807):
    Calls Tryz.prog 120 #[.slice A n c,.int .i64 a,.int .i64 s] w fun e w'=>e=.returned (.bool (qa n a s))∧w=w':=by
  unfold qa;rcases Bool.eq_false_or_eq_true (dW s) with h1|h1
  all_goals
    have H:=Yh h1
    clear h1;go_enter Tryz.func120,Tryz.ntmps120
    go_wp2_with (go_at_call 67;refine (uh _ _).mono ?_;rintro e w' ⟨rfl,rfl⟩;rw [H.out])
    all_goals (go_ret;refine ⟨?_,rfl⟩;simp only [H.out];first|rfl|(simp [*];done)|(simp [*];omega))
def leNat:List Nat→Nat
  | []=>0
  | x::r=>x+256*leNat r
theorem leNat_lt:∀ (l:List Nat),(∀ i:Nat,l.getD i 0<256)→leNat l<256 ^ l.length
  | [],_=>by simp [leNat]
  | x::r,h=>by
    have h0:=h 0
    have h1:=leNat_lt r (fun i=>by have:=h (i+1);simpa using this)
    simp only [leNat,List.length_cons,Nat.pow_succ]
    simp at h0
    omega
theorem getD_drop (l:List Nat) (p i:Nat):(l.drop p).getD i 0=l.getD (p+i) 0:=by
  simp [List.getD_eq_getElem?_getD]
theorem getD_take_lt (l:List Nat) (n i:Nat) (h:∀ i:Nat,l.getD i 0<256):(l.take n).getD i 0<256:=by
  by_cases hi:i<n
  · rw [List.getD_eq_getElem?_getD,List.getElem?_take,if_pos hi,← List.getD_eq_getElem?_getD];exact h i
  · rw [List.getD_eq_getElem?_getD,List.getElem?_take,if_neg hi];decide
theorem Ja (l:List Nat) (n:Nat) (h:∀ i:Nat,l.getD i 0<256) (i:Nat):(l.drop n).getD i 0<256:=by
  rw [getD_drop];exact h _
theorem Jb (l:List Nat) (n:Nat) (h:∀ i:Nat,l.getD i 0<256):leNat (l.take n)<256 ^ n:=by
  have h1:=leNat_lt (l.take n) (fun i=>getD_take_lt l n i h)
  have h2:256 ^ (l.take n).length≤256 ^ n:=Nat.pow_le_pow_right (by decide) (by simp;omega)
  omega
theorem P8 (v b:Nat) (hb:b<256):v*256 ||| b=b+256*v:=by
  have h:=Nat.shiftLeft_add_eq_or_of_lt (b:=b) (i:=8) (by simpa using hb) v
  rw [Nat.shiftLeft_eq] at h;have e:v*2 ^ 8=v*256:=rfl
  rw [e] at h;omega
theorem P9 (v b:Nat) (hv:v<72057594037927936) (hb:b<256):
    bits .or .u64 (IntKind.u64.wrap ((v:Int)*256)) (IntKind.u64.wrap (b:Int))=((b+256*v:Nat):Int):=by
  rw [IntWalk.u64_in _ (by omega),IntWalk.u64_in _ (by omega)]
  have e:((v:Int)*256)=((v*256:Nat):Int):=by omega
  rw [e,bits_or_u64_nat _ _ (by omega) (by omega),P8 v b hb]
theorem Qa (l:List Nat) (k n:Nat) (h:k<l.length):leNat ((l.drop k).take (n+1))=l.getD k 0+256*leNat ((l.drop (k+1)).take n):=by
  rw [List.drop_eq_getElem_cons h,List.take_succ_cons];simp [leNat,h]
theorem Qb (l:List Nat) (p q j:Nat) (hl:∀ i:Nat,l.getD i 0<256) (hq:q≤8) (hj:j≤q) (h0:1≤j) (hpq:p+q≤l.length):
    bits .or .u64 (IntKind.u64.wrap (((leNat ((l.drop (p+j)).take (q-j)):Nat):Int)*256)) (IntKind.u64.wrap ((l[p+(j-1)]?.getD 0:Nat):Int)) =
      ((leNat (((l.drop p).drop (j-1)).take (q-(j-1))):Nat):Int):=by
  have h1:=Jb (l.drop (p+j)) (q-j) (Ja l _ hl)
  have h2:256 ^ (q-j)≤256 ^ 7:=Nat.pow_le_pow_right (by decide) (by omega)
  have h3:=hl (p+(j-1))
  rw [List.getD_eq_getElem?_getD] at h3;rw [P9 _ _ (by omega) h3,List.drop_drop,show q-(j-1)=(q-j)+1 by omega,Qa l _ _ (by omega),List.getD_eq_getElem?_getD,show p+(j-1)+1=p+j by omega]
/-! Bits. -/
theorem Qc (h j:Nat) (hh:h<2 ^ j):h ||| (2 ^ j-1)=2 ^ j-1:=by
  apply Nat.eq_of_testBit_eq
  intro i;rw [Nat.testBit_or,Nat.testBit_two_pow_sub_one];by_cases hi:i<j
  · simp [hi]
  · have:h.testBit i=false:=Nat.testBit_lt_two_pow (Nat.lt_of_lt_of_le hh (Nat.pow_le_pow_right (by decide) (by omega)))
    simp [hi,this]
theorem Eh (v k j:Nat) (hv:v<2 ^ (k+j)):v ||| (2 ^ (k+j)-2 ^ k)=v % 2 ^ k+(2 ^ (k+j)-2 ^ k):=by
  have e:2 ^ (k+j)-2 ^ k=2 ^ k*(2 ^ j-1):=by rw [Nat.pow_add,Nat.mul_sub,Nat.mul_one]
  rw [e];have h1:(v ||| 2 ^ k*(2 ^ j-1)) % 2 ^ k=v % 2 ^ k:=by
    rw [Nat.or_mod_two_pow,Nat.mul_mod_right,Nat.or_zero]
  have h2:(v ||| 2 ^ k*(2 ^ j-1)) / 2 ^ k=2 ^ j-1:=by
    rw [Nat.or_div_two_pow,Nat.mul_div_cancel_left _ (Nat.two_pow_pos k)];exact Qc _ _ (Nat.div_lt_of_lt_mul (by rw [← Nat.pow_add];exact hv))
  have h3:=Nat.div_add_mod (v ||| 2 ^ k*(2 ^ j-1)) (2 ^ k)
  rw [h1,h2] at h3;omega
theorem xH (v k:Nat):v &&& 2 ^ k=v / 2 ^ k % 2*2 ^ k:=by
  apply Nat.eq_of_testBit_eq
  intro i;rw [Nat.testBit_and,Nat.testBit_two_pow,Nat.mul_comm,Nat.testBit_two_pow_mul];by_cases h:k=i
  · subst h
    rw [Nat.testBit_eq_decide_div_mod_eq];rcases Nat.mod_two_eq_zero_or_one (v / 2 ^ k) with h|h <;> simp [h]
  · by_cases hi:k≤i
    · have:(v / 2 ^ k % 2).testBit (i-k)=false:=Nat.testBit_lt_two_pow (Nat.lt_of_lt_of_le (Nat.mod_lt _ (by decide)) (by
        have:2 ^ 1≤2 ^ (i-k):=Nat.pow_le_pow_right (by decide) (by omega)
        simpa using this))
      simp [h,hi,this]
    · simp [h,hi]
def gN (s:Int):Nat:=if s=1 then 255 else if s=2 then 65535 else if s=4 then 4294967295 else 18446744073709551615
def cutV (v:Nat) (s:Int):Nat:=if s=1 then v % 256 else if s=2 then v % 65536 else if s=4 then v % 4294967296 else v
def vT (v:Nat) (s:Int):Nat:=
  if s=1 then (if v % 256<128 then v % 256 else v % 256+18446744073709551360)
  else if s=2 then (if v % 65536<32768 then v % 65536 else v % 65536+18446744073709486080)
  else if s=4 then (if v % 4294967296<2147483648 then v % 4294967296 else v % 4294967296+18446744069414584320)
  else v
theorem BO (s:Int):gN s<18446744073709551616:=by
  unfold gN;repeat' split
  all_goals omega
theorem Jc (v:Nat) (s:Int) (h:v<18446744073709551616):v &&& gN s=cutV v s:=by
  unfold gN cutV
  repeat' split
  · exact Nat.and_two_pow_sub_one_eq_mod v 8
  · exact Nat.and_two_pow_sub_one_eq_mod v 16
  · exact Nat.and_two_pow_sub_one_eq_mod v 32
  · have:=Nat.and_two_pow_sub_one_eq_mod v 64
    rw [show (2 ^ 64-1:Nat)=18446744073709551615 from rfl] at this;rw [this];exact Nat.mod_eq_of_lt h
def mX (s:Int):Nat:=if s=1 then 128 else if s=2 then 32768 else if s=4 then 2147483648 else 9223372036854775808
theorem Qd (s:Int):gN s ^^^ gN s / 2=mX s:=by
  unfold gN mX
  repeat' split
  all_goals decide
theorem Qe (v:Nat) (s:Int) (h:v<18446744073709551616) (hb:v &&& mX s=0):v &&& gN s=vT v s:=by
  rw [Jc v s h];unfold mX at hb;unfold cutV vT;by_cases h1:s=1
  · simp only [h1,ite_true] at *
    have e:=xH v 7
    simp at e;rw [e] at hb
    rw [if_pos];omega
  · by_cases h2:s=2
    · simp only [h2,ite_true] at *
      have e:=xH v 15
      simp at e;simp at hb;rw [e] at hb
      simp;omega
    · by_cases h4:s=4
      · simp only [h4,ite_true] at *
        have e:=xH v 31
        simp at e;simp at hb;rw [e] at hb
        simp;omega
      · simp [h1,h2,h4]
theorem Qf (v:Nat) (s:Int) (h:v<18446744073709551616) (hb:v &&& mX s≠0):v ||| (18446744073709551615-gN s)=vT v s:=by
  unfold mX at hb;unfold gN vT;by_cases h1:s=1
  · simp only [h1,ite_true] at *
    have e:=xH v 7
    simp at e;rw [e] at hb
    have o:=Eh v 8 56 h
    simp at o ⊢;rw [o,if_neg];omega
  · by_cases h2:s=2
    · simp only [h2,ite_true] at *
      have e:=xH v 15
      simp at e;simp at hb;rw [e] at hb
      have o:=Eh v 16 48 h
      simp at o ⊢;rw [o,if_neg];omega
    · by_cases h4:s=4
      · simp only [h4,ite_true] at *
        have e:=xH v 31
        simp at e;simp at hb;rw [e] at hb
        have o:=Eh v 32 32 h
        simp at o ⊢;rw [o,if_neg];omega
      · simp [h1,h2,h4]
def jI (w:World) (A:Option Addr) (l:List Nat):Prop:=
  (∀ i,l.getD i 0<256)∧(0<l.length→∃ b o,A=some ⟨b,o,none⟩∧∀ i,i<l.length→w.cell? ⟨b,o+i,none⟩=some (.int .u8 ((l.getD i 0:Nat):Int)))
def iX (l:List Nat) (a s:Int):Nat:=leNat ((l.drop a.toNat).take s.toNat)
theorem Ei {n a s:Int} (h:qa n a s=true):dW s=true∧0≤a∧a≤n∧s≤n-a:=by
  simp [qa] at h;exact ⟨h.1,h.2.1,h.2.2.1,h.2.2.2⟩
theorem Qg (A:Option Addr) (l:List Nat) (c:Nat) (a s:Int) (w:World) (hn:l.length≤9223372036854775807) (hB:jI w A l) (ht:qa l.length a s=true):
    Calls Tryz.prog 193 #[.slice A l.length c,.int .i64 a,.int .i64 s] w fun e w'=>e=.returned (.tuple #[.int .u64 (iX l a s),.bool true])∧w=w':=by
  have HT:=Yh ht
  obtain ⟨h1,h2,h3,h4⟩:=Ei ht
  clear ht;have h5:=ug h1
  clear h1;obtain ⟨p,rfl⟩:=Int.eq_ofNat_of_zero_le h2
  obtain ⟨q,rfl⟩:=Int.eq_ofNat_of_zero_le (show 0≤s by omega)
  have hq:q≤8:=by omega
  have hq1:1≤q:=by omega
  have hpq:p+q≤l.length:=by omega
  clear h2 h3 h4 h5;obtain ⟨hlt,hB2⟩:=hB
  obtain ⟨b,o,rfl,hc⟩:=hB2 (by omega)
  have HC:=Yh hc
  have HL:=Yh hlt
  clear hc hB2 hlt;go_enter Tryz.func193,Tryz.ntmps193
  go_wp2_with (go_at_call 120;refine (I9 _ _ _ _ _ _ hn).mono ?_;rintro e w' ⟨rfl,rfl⟩;rw [HT.out])
  go_loop [8,9] (fun v i=>∃ j:Nat,j≤q∧i=.int .i64 ((j:Int)-1)∧v=.int .u64 (leNat (((l.drop p).drop j).take (q-j)):Nat)) (fun _ i=>(intOf i+1).toNat)
  case atStart=>exact ⟨q,Nat.le_refl _,rfl,by simp [leNat]⟩
  case round =>
    obtain ⟨j,hj,rfl,rfl⟩:=hrel
    by_cases h0:1≤j
    · have hcell:=HC.out (p+(j-1)) (by omega)
      have e1:((j:Int)-1)=((j-1:Nat):Int):=by omega
      go_wp2;exact ⟨⟨j-1,by omega,rfl,by rw [Qb l p q j HL.out hq hj h0 hpq]⟩,by simp [intOf];omega⟩
    · obtain rfl:j=0:=by omega
      go_wp2
      go_ret2
      exact ⟨by simp [iX],rfl⟩
def byteOf (v i:Nat):Nat:=v / 256 ^ i % 256
structure xI (w w':World) (b k:Nat) (v n:Nat):Prop where
  grown:w.grownBy w' (some b)
  size:w'.heap.size=w.heap.size
  new:∀ i,i<n→w'.cell? ⟨b,k+i,none⟩=some (.int .u8 ((byteOf v i:Nat):Int))
  old:∀ p:Addr,(p.block≠b∨p.off<k∨k+n≤p.off)→w'.cell? p=w.cell? p
  frozen:∀ p,w'.frozen? p=w.frozen? p
theorem Qh (v j:Nat):((v:Int) / 2 ^ (8*j) % 256)=((byteOf v j:Nat):Int):=by
  have e:((2:Int) ^ (8*j))=((256 ^ j:Nat):Int):=by
    rw [Int.pow_mul];simp
  rw [e,byteOf];simp
theorem xI.step {w wr:World} {b k v j:Nat} (h:xI w wr b k v j) (hu:(wr.cell? ⟨b,k+j,none⟩).isSome=true):
    xI w (wr.setCell ⟨b,k+j,none⟩ (.int .u8 ((byteOf v j:Nat):Int))) b k v (j+1):=by
  refine ⟨⟨h.grown.os,h.grown.tape,h.grown.output,by simpa using h.grown.size,fun i hi hne=>?_⟩,by simpa using h.size,fun i hi=>?_,fun p hp=>?_,fun p=>by simpa using h.frozen p⟩
  · rw [Below.heap_setCell _ _ _ _ (fun e=>hne (by rw [e]))];exact h.grown.block i hi hne
  · by_cases e:i=j
    · subst e;exact World.cell?_setCell_same' _ _ _ hu
    · rw [World.cell?_setCell_other _ _ _ _ (by intro he;injection he;omega)];exact h.new i (by omega)
  · rw [World.cell?_setCell_other _ _ _ _ (by rintro rfl;simp at hp;omega)];exact h.old p (by omega)
theorem Jd (b o n:Nat) (c:Nat) (a s:Int) (v:Nat) (w:World) (hv:v<18446744073709551616) (hn:n≤9223372036854775807)
    (hc:∀ i,i<n→∃ u,w.cell? ⟨b,o+i,none⟩=some u) (hf:∀ i,i<n→w.frozen? ⟨b,o+i,none⟩=false) (ht:qa n a s=true):
    Calls Tryz.prog 68 #[.slice (some ⟨b,o,none⟩) n c,.int .i64 a,.int .i64 s,.int .u64 v] w fun e w'=>e=.returned (.bool true)∧xI w w' b (o+a.toNat) v s.toNat:=by
  have HT:=Yh ht
  obtain ⟨h1,h2,h3,h4⟩:=Ei ht
  clear ht;have h5:=ug h1
  clear h1;obtain ⟨p,rfl⟩:=Int.eq_ofNat_of_zero_le h2
  obtain ⟨q,rfl⟩:=Int.eq_ofNat_of_zero_le (show 0≤s by omega)
  have hq:q≤8:=by omega
  have hq1:1≤q:=by omega
  have hpq:p+q≤n:=by omega
  clear h2 h3 h4 h5;have HC:=Yh hc
  have HF:=Yh hf
  clear hc hf;go_enter Tryz.func68,Tryz.ntmps68
  go_wp2_with (go_at_call 120;refine (I9 _ _ _ _ _ _ hn).mono ?_;rintro e w' ⟨rfl,rfl⟩;rw [HT.out])
  go_loopw [16] (fun i wr=>∃ j:Nat,j≤q∧i=.int .i64 j∧xI w wr b (o+p) v j) (fun i _=>(q-(intOf i)).toNat)
  case atStart=>exact ⟨0,by omega,rfl,⟨World.grownBy.refl _ _,rfl,fun i hi=>by omega,fun _ _=>rfl,fun _=>rfl⟩⟩
  case round =>
    obtain ⟨j,hj,rfl,hP⟩:=hrel
    have HP:=Yh hP
    clear hP;by_cases h0:j<q
    · have hcell:=HP.out.old ⟨b,o+(p+j),none⟩ (.inr (.inr (by show o+p+j≤o+(p+j);omega)))
      obtain ⟨u,hu⟩:=HC.out (p+j) (by omega)
      rw [hu] at hcell;clear hu;have hfz:=HP.out.frozen ⟨b,o+(p+j),none⟩
      rw [HF.out (p+j) (by omega)] at hfz
      go_wp2;rw [Qh,show o+(p+j)=o+p+j by omega]
      exact ⟨⟨j+1,by omega,by go_num,HP.out.step (by rw [show o+p+j=o+(p+j) by omega,hcell];rfl)⟩,by simp [intOf];omega⟩
    · obtain rfl:j=q:=by omega
      go_wp2;go_ret
      exact ⟨rfl,HP.out⟩
def bytesOf (v:Nat) (s:Int):List Nat:=if dW s then (List.range s.toNat).map (byteOf v) else []
def Je (l:List Nat) (w:World) (e:Ending) (w':World):Prop:=
  ∃ A c,e=.returned (.slice A l.length c)∧jI w' A l∧(∀ a,A=some a→a.block<w'.heap.size)∧Below w.heap.size w w'
theorem Jf (v i:Nat):byteOf v i<256:=Nat.mod_lt _ (by decide)
theorem Ej (v:Nat) (s:Int) (i:Nat):(bytesOf v s).getD i 0<256:=by
  unfold bytesOf
  split
  · rw [List.getD_eq_getElem?_getD,List.getElem?_map]
    cases h:(List.range s.toNat)[i]? with
    | none=>simp
    | some k=>simpa using Jf v k
  · simp
theorem bytesOf_length (v q:Nat) (h:dW q=true):(bytesOf v q).length=q:=by simp [bytesOf,h]
theorem Jg (v q i:Nat) (h:dW q=true) (hi:i<q):(bytesOf v q).getD i 0=byteOf v i:=by
  simp [bytesOf,h,List.getElem?_range hi]
theorem Qi (q:Nat) (h:dW q=true):qa q 0 q=true:=by simp [qa,h]
theorem info5:(Tryz.prog.info? 5).map (fun i=>(i.zero,i.size,i.bytes))=some (some (.int .u8 0),1,1):=by kernel_rfl
theorem Qj (q i:Nat) (hi:i<q):(madeCells #[Value.int IntKind.u8 0] q)[i]? = some (.int .u8 0):=by
  have:[Value.int IntKind.u8 0][i % 1]? = some (Value.int IntKind.u8 0):=by rw [Nat.mod_one];rfl
  unfold madeCells;simp [hi,this]
theorem Qk (v:Nat) (q:Nat) (w:World) (hv:v<18446744073709551616) (h1:dW q=true):
    Calls Tryz.prog 37 #[.int .u64 v,.int .i64 q] w (Je (bytesOf v q) w):=by
  have hq:=ug h1
  have ht:=Yh (Qi q h1)
  have HL:=Yh (bytesOf_length v q h1)
  have HG:=Yh (fun i hi=>Jg v q i h1 hi)
  have H1:=Yh h1
  have hq8:q≤8:=by omega
  have hq1:1≤q:=by omega
  clear h1 hq;obtain ⟨i0,hi0,hz0,hz1,hz2⟩:=info_parts info5
  have hmk:∀ W,(Instr.makeSlice 29 (.int .i64 (q:Int)) (.int .i64 (q:Int))).run Tryz.prog W=.ok (.slice (some ⟨W.heap.size,0,none⟩) q q) (W.alloc (.cells (madeCells (Value.int IntKind.u8 0).cells (q*1)) 5)):=fun W=>by
    have h:=run_make (P:=Tryz.prog) W 29 5 i0 _ Tryz.underlying29 hi0 hz0 .i64 .i64 (q:Int) (q:Int) (by omega) (by omega) (by rw [hz2];omega) (by omega)
    rw [hz1] at h
    simpa using h
  go_enter Tryz.func37,Tryz.ntmps37
  go_wp2_with (go_at_call 67;refine (uh _ _).mono ?_;rintro e w' ⟨rfl,rfl⟩;rw [H1.out])
  refine (Jd w.heap.size 0 q q 0 (q:Int) v _ hv (by omega) (fun i hi=>⟨.int .u8 0,by rw [World.cell?_alloc_new,Nat.zero_add];exact Qj q i hi⟩) (fun i hi=>by simp) ht.out).mono ?_
  rintro e w1 ⟨rfl,hP⟩;have HP:=Yh hP
  clear hP;go_wp2;go_ret
  have hP:=HP.out
  refine ⟨some ⟨w.heap.size,0,none⟩,q,by rw [HL.out];rfl,⟨Ej v q,fun _=>⟨_,_,rfl,fun i hi=>?_⟩⟩,fun a ha=>?_,?_⟩
  · rw [HL.out] at hi
    rw [HG.out i hi];have:=hP.new i (by simpa using hi)
    simpa using this
  · injection ha with ha;subst ha;rw [hP.size];simp
  · exact ((Below.refl _ w).alloc (Nat.le_refl _) _).grown hP.grown (by simp) (by intro k hk;injection hk with hk;omega)
theorem Ql (v:Int) (s:Int) (w:World) (h1:dW s=false):
    Calls Tryz.prog 37 #[.int .u64 v,.int .i64 s] w fun e w'=>e=.returned (.slice none 0 0)∧w=w':=by
  have H1:=Yh h1
  clear h1;go_enter Tryz.func37,Tryz.ntmps37
  go_wp2_with (go_at_call 67;refine (uh _ _).mono ?_;rintro e w' ⟨rfl,rfl⟩;rw [H1.out])
  go_ret
  exact ⟨rfl,rfl⟩
theorem Qm (v:Nat) (s:Int) (w:World) (hv:v<18446744073709551616):
    Calls Tryz.prog 37 #[.int .u64 v,.int .i64 s] w (Je (bytesOf v s) w):=by
  rcases Bool.eq_false_or_eq_true (dW s) with h1|h1
  · obtain ⟨q,rfl⟩:=Int.eq_ofNat_of_zero_le (show 0≤s by have:=ug h1;omega)
    exact Qk v q w hv h1
  · refine (Ql v s w h1).mono ?_
    rintro e w' ⟨rfl,rfl⟩;have e:bytesOf v s = []:=by simp [bytesOf,h1]
    exact ⟨none,0,by rw [e];rfl,⟨Ej v s,fun h=>by rw [e] at h;simp at h⟩,(fun _ ha=>by cases ha),Below.refl _ _⟩
theorem Qn (a:Addr) (n:Nat):(a.add n).block=a.block:=by unfold Addr.add;split <;> rfl
def Reads (w:World) (B size:Nat) (A:Option Addr) (n:Nat) (xs:List Value):Prop:=
  xs.length=n*size∧(0<n→∃ ad,A=some ad∧ad.block<B∧∀ j u,xs[j]? = some u→w.cell? (ad.add j)=some u)
section
variable {w w':World} {B B' size n:Nat} {A:Option Addr} {xs:List Value}
theorem Reads.keep (h:Reads w B size A n xs) (hk:∀ p:Addr,p.block<B→w'.cell? p=w.cell? p):Reads w' B size A n xs:=
  ⟨h.1,fun hn=>by
    obtain ⟨ad,e,hb,hc⟩:=h.2 hn
    exact ⟨ad,e,hb,fun j u hu=>(hk _ (by rw [Qn];exact hb)).trans (hc j u hu)⟩⟩
theorem Reads.alloc (h:Reads w B size A n xs) (hB:B≤w.heap.size) (o:Obj):Reads (w.alloc o) B size A n xs:=h.keep fun p hp=>World.cell?_alloc_lt w o p (by omega)
end
section
variable {P:Program} (w:World)
theorem Qo (base:Nat) (t ty e:TypeId) (i:TypeInfo) (size:Nat) (ht:P.underlying t=some (.slice e)) (hi:P.info? e=some i)
    (v:Value) (n:Nat) (xs:List Value) (hown:w.ownsRow base e size v n xs) (c:Nat):(Builtin.append_ #[t,t] ty #[v,.slice none 0 c]).run P w=.ok v w:=by
  rcases hown.2 with ⟨rfl,rfl⟩|⟨g,cap,cur,rfl,_,_,hnc,_⟩
  · simp [Builtin.append_,run_underlying ht,sizeOf,typeInfo,hi,Builtin.lenOf,Builtin.firstCells]
  · simp [Builtin.append_,run_underlying ht,sizeOf,typeInfo,hi,Builtin.lenOf,Builtin.firstCells,hnc,storeCells]
theorem Qp (base:Nat) (t ty e:TypeId) (i:TypeInfo) (z:Value) (size bytes:Nat) (ht:P.underlying t=some (.slice e)) (hi:P.info? e=some i) (hz:i.zero=some z)
    (hsize:i.size=size) (hby:i.bytes=bytes) (hzs:z.cells.size=size) (hsz:0<size)
    (v:Value) (n:Nat) (xs:List Value) (hown:w.ownsRow base e size v n xs)
    (B:Nat) (A:Option Addr) (m c:Nat) (news:List Value) (hr:Reads w B size A m news) (h1:∀ u∈news,u.oneCell'=true)
    (h63:n+m≤maxLen) (hbytes:(n+m)*bytes≤140737488355328) (hbase:base≤w.heap.size):
    ∃ v' w',(Builtin.append_ #[t,t] ty #[v,.slice A m c]).run P w=.ok v' w'∧w'.ownsRow base e size v' (n+m) (xs++news)∧w.grownBy w' v.ownBlock ∧
      (v'.ownBlock=v.ownBlock∨v'.ownBlock=some w.heap.size):=by
  rcases A with _|ad
  · have hm:m=0:=by
      rcases Nat.eq_zero_or_pos m with h0|h0
      · exact h0
      · obtain ⟨ad,h,_⟩:=hr.2 h0
        cases h
    subst hm;have hn:news = []:=List.eq_nil_of_length_eq_zero (by simpa using hr.1)
    subst hn;exact ⟨v,w,Qo w base t ty e i size ht hi v n xs hown c,by simpa using hown,World.grownBy.refl w _,.inl rfl⟩
  · have hcells:∀ j u,news[j]? = some u→w.cell? (ad.add j)=some u:=by
      intro j u hu;rcases Nat.eq_zero_or_pos m with h0|h0
      · subst h0
        have hn:news = []:=List.eq_nil_of_length_eq_zero (by simpa using hr.1)
        subst hn;simp at hu
      · obtain ⟨ad',h,_,hc⟩:=hr.2 h0
        injection h with h
        subst h;exact hc j u hu
    obtain ⟨v',w',hrun,h2,h3,_,h5⟩:=run_append_own_at (P:=P) w base t ty e i z size bytes ht hi hz hsize hby hzs hsz v n xs hown ad m c news hr.1 hcells h1 h63 hbytes hbase
    exact ⟨v',w',hrun,h2,h3,h5⟩
theorem ui {o:Oper} {a:Act} {K:Act→World→Prop} {Q:Exit→Act→World→Prop} (s x:Operand) (t:TypeId)
    (ho:o.op=.call {callee:=.builtin .append,args:=#[s,x],argTypes:=#[t,t] })
    (base:Nat) (e:TypeId) (i:TypeInfo) (z:Value) (size bytes:Nat) (ht:P.underlying t=some (.slice e)) (hi:P.info? e=some i) (hz:i.zero=some z)
    (hsize:i.size=size) (hby:i.bytes=bytes) (hzs:z.cells.size=size) (hsz:0<size)
    (v:Value) (n:Nat) (xs:List Value) (hs:a.eval s=v) (hown:w.ownsRow base e size v n xs)
    (B:Nat) (A:Option Addr) (m c:Nat) (news:List Value) (hx:a.eval x=.slice A m c) (hr:Reads w B size A m news) (h1:∀ u∈news,u.oneCell'=true)
    (h63:n+m≤maxLen) (hbytes:(n+m)*bytes≤140737488355328) (hbase:base≤w.heap.size)
    (h:∀ v' w',w'.ownsRow base e size v' (n+m) (xs++news)→w.grownBy w' v.ownBlock→(v'.ownBlock=v.ownBlock∨v'.ownBlock=some w.heap.size)→K (a.put o.dst v') w'):o.wp P a w K Q:=by
  obtain ⟨v',w',hrun,h2,h3,h4⟩:=Qp (P:=P) w base t o.type e i z size bytes ht hi hz hsize hby hzs hsz v n xs hown B A m c news hr h1 h63 hbytes hbase
  unfold Oper.wp execOp;simp only [ho,resolve,invoke,builtin,Sem.run_bind,Sem.run_pure,Result.andThen_ok,List.map_toArray,List.map_cons,List.map_nil,hs,hx,hrun]
  exact h v' w' h2 h3 h4
theorem oL {ops:Array Oper} {rest:List Oper} {o:Oper} {a:Act} {Q:Exit→Act→World→Prop} (hgd:o.guard=none) (s x:Operand) (t:TypeId)
    (ho:o.op=.call {callee:=.builtin .append,args:=#[s,x],argTypes:=#[t,t] })
    (base:Nat) (e:TypeId) (i:TypeInfo) (z:Value) (size bytes:Nat) (ht:P.underlying t=some (.slice e)) (hi:P.info? e=some i) (hz:i.zero=some z)
    (hsize:i.size=size) (hby:i.bytes=bytes) (hzs:z.cells.size=size) (hsz:0<size)
    (v:Value) (n:Nat) (xs:List Value) (hs:a.eval s=v) (hown:w.ownsRow base e size v n xs)
    (B:Nat) (A:Option Addr) (m c:Nat) (news:List Value) (hx:a.eval x=.slice A m c) (hr:Reads w B size A m news) (h1:∀ u∈news,u.oneCell'=true)
    (h63:n+m≤maxLen) (hbytes:(n+m)*bytes≤140737488355328) (hbase:base≤w.heap.size)
    (h:∀ v' w',w'.ownsRow base e size v' (n+m) (xs++news)→w.grownBy w' v.ownBlock→(v'.ownBlock=v.ownBlock∨v'.ownBlock=some w.heap.size)→wpList P ops Q rest (a.put o.dst v') w'):wpList P ops Q (o::rest) a w:=
  wpList_plain hgd fun _ hK=>ui w s x t ho base e i z size bytes ht hi hz hsize hby hzs hsz v n xs hs hown B A m c news hx hr h1 h63 hbytes hbase fun v' w' h2 h3 h4=>hK _ _ (h v' w' h2 h3 h4)
end
def Ext (w w':World):Prop:=Below w.heap.size w w'
theorem Ext.refl (w:World):Ext w w:=Below.refl _ _
theorem Ext.trans {a b c:World} (h:Ext a b) (k:Ext b c):Ext a c:=Below.trans h (k.mono h.size)
structure Later (R:World→World→Prop):Prop where
  refl:∀ w,R w w
  trans:∀ {a b c},R a b→R b c→R a c
theorem later_ext:Later Ext:=⟨Ext.refl,Ext.trans⟩
def bO (g:Nat) (w w':World):Prop:=∀ p:Addr,p.block≠g→w'.cell? p=w.cell? p
theorem bI (g:Nat):Later (bO g):=⟨fun _ _ _=>rfl,fun h k p hp=>(k p hp).trans (h p hp)⟩
section
variable {P:Program} {ops:Array Oper} {Q:Exit→Act→World→Prop} {md:Region.Mode} {R:World→World→Prop}
def kZ (P:Program) (ops:Array Oper) (S:World→Prop) (o:Oper) (v:Value) (a:Act):Prop:=
  (Region.wanted o (yielded ops a.tmps)=true∧∀ w,S w→((execOp a.eval o).run P w=.ok (.value v) w ∨
    ∃ f args,(execOp a.eval o).run P w=.ok (.enter f args) w∧Calls P f args w fun e w'=>e=.returned v∧w=w')) ∨
  (Region.wanted o (yielded ops a.tmps)=false∧v=undef)
theorem kZ.wpOp {S:World→Prop} {i:Nat} {o:Oper} {v:Value} {a:Act} (hi:ops[i]? = some o) (hy:kZ P ops S o v a)
    {K:Act→World→Prop} {w:World} (hS:S w) (h:K (a.put o.dst v) w):wpOp P ops Q i K a w:=by
  unfold Go.wpOp;simp only [hi]
  rcases hy with ⟨hw,hv⟩|⟨hw,rfl⟩
  · rcases hv w hS with hv|⟨f,args,hv,hc⟩
    · simp only [hw,if_true,Oper.wp,hv,Oper.upon];exact .inl h
    · simp only [hw,if_true,Oper.wp,hv,Oper.upon]
      refine .inl (hc.mono ?_)
      rintro e w' ⟨rfl,rfl⟩;exact h
  · simp only [hw,Bool.false_eq_true,if_false];exact h
theorem kZ.of_same {S:World→Prop} {o:Oper} {v:Value} {a a':Act} (hy:kZ P ops S o v a) (he:execOp a'.eval o=execOp a.eval o)
    (hw:Region.wanted o (yielded ops a'.tmps)=Region.wanted o (yielded ops a.tmps)):kZ P ops S o v a':=by
  unfold kZ at *;rw [he,hw];exact hy
theorem Qq {S:World→Prop} {j:Nat} {oi oj:Oper} {v:Value} (hj:ops[j]? = some oj) (hap:oi.apart ops oj=true)
    (hsi:∀ cs b,oi.op ≠ .select cs b) (hsj:∀ cs b,oj.op ≠ .select cs b)
    (hQ:∀ c a w,Q (.panic c) (a.put oi.dst v) w→Q (.panic c) a w) {K:Act→World→Prop} {a:Act} {w:World}
    (hy:kZ P ops S oi v a) (h:wpOp P ops Q j K (a.put oi.dst v) w):
    wpOp P ops Q j (fun a' w'=>kZ P ops S oi v a'∧K (a'.put oi.dst v) w') a w:=by
  obtain ⟨h1,h2,h3⟩:=Oper.apart_spec hap
  have keep:∀ (a:Act),kZ P ops S oi v a→∀ u,kZ P ops S oi v (a.put oj.dst u):=fun a hy u =>
    hy.of_same (execOp_put oi hsi a oj.dst u h3) (wanted_put oi a oj.dst u h3)
  have keepD:∀ d,kZ P ops S oi v {a with defers:=d::a.defers}:=fun d=>hy.of_same rfl rfl
  unfold wpOp at *;simp only [hj] at *
  rw [wanted_put oj a oi.dst v h1] at h
  split
  · rename_i hw
    simp only [hw,if_true] at h
    rcases h with h|⟨hasks,hlets⟩
    case inr=>exact .inr ⟨by unfold Oper.asks at *;rw [execOp_put oj hsj a oi.dst v h1] at hasks;exact hasks,hlets⟩
    refine .inl ?_
    unfold Oper.wp at *;rw [execOp_put oj hsj a oi.dst v h1] at h;generalize (execOp a.eval oj).run P w=r at *
    cases r with
    | ok n w' =>
      cases n <;> simp only [Oper.upon] at h ⊢
      case value u=>exact ⟨keep a hy u,by rw [← Act.put_comm a v u h2];exact h⟩
      case skip=>exact ⟨keep a hy _,by rw [← Act.put_comm a v undef h2];exact h⟩
      case defer d =>
        refine ⟨keep _ (keepD d) _,?_⟩
        rw [← Act.put_comm _ v undef h2,← Act.put_defers];exact h
      case enter f args =>
        refine Calls.mono h fun e w'' he=>?_
        cases e with
        | returned u=>exact ⟨keep a hy u,by rw [← Act.put_comm a v u h2];exact he⟩
        | panicked c=>exact hQ _ _ _ he
        | outgrown=>exact he
      case row row args=>exact Rows.mono h fun u w'' he=>⟨keep a hy u,by rw [← Act.put_comm a v u h2];exact he⟩
    | halt x w' =>
      cases x <;> simp only [Oper.upon] at h ⊢
      case panic u=>exact hQ _ _ _ h
  · rename_i hw
    simp only [hw] at h
    exact ⟨keep a hy _,by rw [← Act.put_comm a v undef h2];exact h⟩
theorem Qr {S S':World→Prop} {o:Oper} {v:Value} {a:Act} (h:∀ w,S' w→S w) (hy:kZ P ops S o v a):kZ P ops S' o v a:=
  hy.imp (fun ⟨h1,h2⟩=>⟨h1,fun w hw=>h2 w (h w hw)⟩) id
def zy (md:Region.Mode) (ops:Array Oper):Nat→Nat→Nat→Bool
  | 0,_,_=>false
  | n+1,i,j=>match ops[i]? with
    | some o=>o.after.any (fun e=>Region.binds md e&&(e.on==j||zy md ops n e.on j))
    | none=>false
def jJ (md:Region.Mode) (ops:Array Oper) (i:Nat):Bool:=
  (List.range ops.size).all fun j=>j==i||zy md ops 3 i j
def su (md:Region.Mode) (ops:Array Oper) (listed:Array Bool):Prop:=
  ∀ k o,ops[k]? = some o→listed.getD k false=true→∀ e∈o.after,Region.binds md e=true→listed.getD e.on false=true
theorem Jh {md:Region.Mode} {ops:Array Oper} {listed:Array Bool} (hc:su md ops listed):∀ (n i j:Nat) (o:Oper),ops[i]? = some o→(∀ e∈o.after,Region.binds md e=true→listed.getD e.on false=true) →
    zy md ops n i j=true→listed.getD j false=true
  | 0,i,j,o,ho,h,hr=>by cases hr
  | n+1,i,j,o,ho,h,hr=>by
    unfold zy at hr;rw [ho] at hr;obtain ⟨e,he,hb⟩:=Array.any_eq_true'.1 hr
    simp only [Bool.and_eq_true,Bool.or_eq_true,beq_iff_eq] at hb
    have h1:=h e he hb.1
    rcases hb.2 with h2|h2
    · rw [← h2];exact h1
    · cases hm:ops[e.on]? with
      | none =>
        cases n with
        | zero=>cases h2
        | succ n=>unfold zy at h2;rw [hm] at h2;cases h2
      | some om=>exact Jh hc n e.on j om hm (hc e.on om hm h1) h2
theorem Qs {md:Region.Mode} {ops:Array Oper} {listed:Array Bool} {i j:Nat} {o oj:Oper} (hc:su md ops listed) (h:jJ md ops i=true) (hi:ops[i]? = some o) (hr:∀ e∈o.after,Region.binds md e=true→listed.getD e.on false=true) (hj:ops[j]? = some oj) (hji:i≠j):
    listed.getD j false=true:=by
  have hlt:j<ops.size:=by
    rcases Nat.lt_or_ge j ops.size with h'|h'
    · exact h'
    · rw [Array.getElem?_eq_none h'] at hj;cases hj
  have:=List.all_eq_true.1 h j (List.mem_range.2 hlt)
  simp only [Bool.or_eq_true,beq_iff_eq] at this
  rcases this with h1|h1
  · exact absurd h1.symm hji
  · exact Jh hc 3 i j o hi hr h1
def El (md:Region.Mode) (ops:Array Oper) (listed:Array Bool):Bool:=
  (List.range ops.size).all fun k=>!listed.getD k false||(match ops[k]? with|some o=>o.after.all (fun e=>!Region.binds md e||listed.getD e.on false)|none=>true)
theorem Ji {md:Region.Mode} {ops:Array Oper} {listed:Array Bool} (h:El md ops listed=true):su md ops listed:=by
  intro k o ho hk e he hb;have hlt:k<ops.size:=by
    rcases Nat.lt_or_ge k ops.size with h'|h'
    · exact h'
    · rw [Array.getElem?_eq_none h'] at ho;cases ho
  have h1:=List.all_eq_true.1 h k (List.mem_range.2 hlt)
  rw [hk,ho] at h1;simp only [Bool.not_true,Bool.false_or,Array.all_eq_true_iff_forall_mem] at h1
  have h2:=h1 e he
  rw [hb] at h2
  simpa using h2
theorem Jj {md:Region.Mode} {ops:Array Oper} (n:Nat):su md ops (Array.replicate n false):=by
  intro k o _ h
  exfalso
  rw [Array.getD_eq_getD_getElem?,Array.getElem?_replicate] at h
  split at h <;> simp at h
theorem getD_set_true {listed:Array Bool} {i k:Nat} (h:(listed.setIfInBounds i true).getD k false=true):k=i∨listed.getD k false=true:=by
  by_cases hk:i=k
  · exact .inl hk.symm
  · right
    rw [Array.getD_eq_getD_getElem?,Array.getElem?_setIfInBounds_ne hk,← Array.getD_eq_getD_getElem?] at h;exact h
theorem Qt {listed:Array Bool} {i k:Nat} (h:listed.getD k false=true):(listed.setIfInBounds i true).getD k false=true:=by
  by_cases hk:i=k
  · subst hk
    rw [Array.getD_eq_getD_getElem?] at h ⊢;rcases Nat.lt_or_ge i listed.size with h'|h'
    · rw [Array.getElem?_setIfInBounds_self_of_lt h'];rfl
    · rw [Array.getElem?_eq_none h'] at h;simp at h
  · rw [Array.getD_eq_getD_getElem?,Array.getElem?_setIfInBounds_ne hk,← Array.getD_eq_getD_getElem?]
    exact h
theorem qY {md:Region.Mode} {ops:Array Oper} {listed:Array Bool} {i:Nat} (hc:su md ops listed) (hr:i∈Region.ready md ops listed):su md ops (listed.setIfInBounds i true):=by
  obtain ⟨_,oi,hoi,hall⟩:=mem_ready.1 hr
  intro k o ho hk e he hb;refine Qt ?_
  rcases getD_set_true hk with rfl|h1
  · rw [hoi] at ho
    injection ho with ho
    subst ho;exact hall e he hb
  · exact hc k o ho h1 e he hb
def AnyE (R:World→World→Prop) (P:Program) (md:Region.Mode) (ops:Array Oper) (Q:Exit→Act→World→Prop):Nat→Array Bool→Act→World→Prop
  | 0,listed,a,w=>Region.ready md ops listed = []∧Q .normal a w
  | fuel+1,listed,a,w =>
    (Region.ready md ops listed = []→Q .normal a w) ∧
    ∀ i∈Region.ready md ops listed,wpOp P ops Q i (fun a' w'=>(jJ md ops i=true∨R w w')∧AnyE R P md ops Q fuel (listed.setIfInBounds i true) a' w') a w
theorem Em:∀ (fuel:Nat) (listed:Array Bool) (a:Act) (w:World),AnyE R P md ops Q fuel listed a w→wpAny P md ops Q fuel listed a w
  | 0,_,_,_,h=>h
  | fuel+1,_,_,_,h=>⟨h.1,fun i hi=>wpOp_mono (fun a' w' h'=>Em fuel _ a' w' h'.2) (h.2 i hi)⟩
theorem Jk (hR:Later R) {i:Nat} {oi:Oper} {v:Value} (hi:ops[i]? = some oi) (hsel:∀ (j:Nat) (o:Oper) cs b,ops[j]? = some o→o.op ≠ .select cs b)
    (hQ:∀ c a w,Q (.panic c) (a.put oi.dst v) w→Q (.panic c) a w):
    ∀ (fuel:Nat) (listed:Array Bool) (a:Act) (w:World),su md ops listed →
      (∀ j oj,ops[j]? = some oj→j≠i→listed.getD j true=false→(∀ e∈oj.after,Region.binds md e=true→e.on≠i)→oi.apart ops oj=true) →
      i∈Region.ready md ops listed→kZ P ops (R w) oi v a →
      AnyE R P md ops Q fuel (listed.setIfInBounds i true) (a.put oi.dst v) w→AnyE R P md ops Q (fuel+1) listed a w:=by
  intro fuel
  induction fuel with
  | zero =>
    intro listed a w _ _ hr hy H;refine ⟨fun h=>(by rw [h] at hr;cases hr),fun j hj=>?_⟩
    by_cases hji:j=i
    · subst hji;exact hy.wpOp hi (hR.refl w) ⟨.inr (hR.refl w),H⟩
    · have:=ready_mono hj hji
      rw [H.1] at this
      cases this
  | succ fuel ih =>
    intro listed a w hcl hfree hr hy H;refine ⟨fun h=>(by rw [h] at hr;cases hr),fun j hj=>?_⟩
    by_cases hji:j=i
    · subst hji;exact hy.wpOp hi (hR.refl w) ⟨.inr (hR.refl w),H⟩
    · have h1:=H.2 j (ready_mono hj hji)
      obtain ⟨hjun,oj,hoj,hall⟩:=mem_ready.1 hj
      have Qu:=hall
      have hnot:∀ e∈oj.after,Region.binds md e=true→e.on≠i:=fun e he hb heq=>by
        have h1:=hall e he hb
        have h0:=(mem_ready.1 hr).1
        rw [heq] at h1;rcases Nat.lt_or_ge i listed.size with h'|h'
        · simp [h'] at h0 h1;rw [h0] at h1;cases h1
        · simp [Array.getElem?_eq_none h'] at h1
      have h2:=Qq hoj (hfree j oj hoj hji hjun hnot) (fun cs b=>hsel i oi cs b hi) (fun cs b=>hsel j oj cs b hoj) hQ hy h1
      have hfree':∀ k ok,ops[k]? = some ok→k≠i→(listed.setIfInBounds j true).getD k true=false →
          (∀ e∈ok.after,Region.binds md e=true→e.on≠i)→oi.apart ops ok=true:=fun k ok hk hki hun hno=>by
        refine hfree k ok hk hki ?_ hno
        by_cases hjk:j=k
        · subst hjk;exact hjun
        · rw [getD_set_ne true hjk] at hun;exact hun
      have hno:∀ {p:Prop},(jJ md ops j=true∨p)→p:=fun h=>h.resolve_left fun hall=>by
        have h1:=Qs hcl hall hoj Qu hi hji
        have h0:=(mem_ready.1 hr).1
        rcases Nat.lt_or_ge i listed.size with h'|h'
        · simp [h'] at h0 h1;rw [h0] at h1;cases h1
        · simp [Array.getElem?_eq_none h'] at h1
      refine wpOp_mono (fun a' w' h3=>⟨h3.2.1,ih (listed.setIfInBounds j true) a' w' (qY hcl hj) hfree' (ready_mono hr (Ne.symm hji)) (Qr (fun x hx=>hR.trans (hno h3.2.1) hx) h3.1) ?_⟩) h2
      rw [Array.setIfInBounds_comm _ _ hji];exact h3.2.2
def jk (R:World→World→Prop) (P:Program) (ops:Array Oper) (Q:Exit→Act→World→Prop):List (Nat × Bool)→Act→World→Prop
  | [],a,w=>Q .normal a w
  | (i,false)::r,a,w=>∃ o v,ops[i]? = some o∧kZ P ops (R w) o v a∧jk R P ops Q r (a.put o.dst v) w
  | (i,true)::r,a,w=>wpOp P ops Q i (fun a' w'=>(jJ .any ops i=true∨R w w')∧jk R P ops Q r a' w') a w
def uj (md:Region.Mode) (ops:Array Oper):List (Nat × Bool)→Array Bool→Bool
  | [],listed=>(Region.ready md ops listed).isEmpty
  | (i,false)::r,listed=>Region.free md ops listed i&&(Region.ready md ops listed).contains i&&uj md ops r (listed.setIfInBounds i true)
  | (i,true)::r,listed=>Region.ready md ops listed == [i] && uj md ops r (listed.setIfInBounds i true)
theorem Eo (hR:Later R) (hs:Region.noSelect ops=true) (hQ:∀ c d v a w,Q (.panic c) (a.put d v) w→Q (.panic c) a w):
    ∀ (l:List (Nat × Bool)) (listed:Array Bool) (a:Act) (w:World),su .any ops listed→uj .any ops l listed=true→jk R P ops Q l a w→AnyE R P .any ops Q l.length listed a w
  | [],listed,a,w,hcl,hp,h=>by
    simp only [uj,List.isEmpty_iff] at hp
    exact ⟨hp,h⟩
  | (i,false)::r,listed,a,w,hcl,hp,h=>by
    simp only [uj,Bool.and_eq_true] at hp
    obtain ⟨o,v,ho,hy,h⟩:=h
    exact Jk hR ho (Region.noSelect_spec hs) (fun c a w=>hQ c o.dst v a w) r.length listed a w hcl (Region.free_spec ho hp.1.1) (by simpa using hp.1.2) hy
      (Eo hR hs hQ r _ _ _ (qY hcl (by simpa using hp.1.2)) hp.2 h)
  | (i,true)::r,listed,a,w,hcl,hp,h=>by
    simp only [uj,Bool.and_eq_true,beq_iff_eq] at hp
    refine ⟨fun h0=>(by rw [hp.1] at h0;cases h0),fun j hj=>?_⟩
    rw [hp.1] at hj;obtain rfl:j=i:=by simpa using hj
    exact wpOp_mono (fun a' w' h'=>⟨h'.1,Eo hR hs hQ r _ _ _ (qY hcl (by rw [hp.1];simp)) hp.2 h'.2⟩) h
theorem wp_region_plan_by (R:World→World→Prop) (hR:Later R) {id:Nat} {a:Act} {w:World} (l:List (Nat × Bool)) (hm:P.follows .mixedOrders=true)
    (hl:(Region.noSelect ops&&l.length==ops.size&&uj .any ops l (Array.replicate ops.size false))=true)
    (hQ:∀ c d v a w,Q (.panic c) (a.put d v) w→Q (.panic c) a w)
    (h:jk R P ops Q l a w.drew):(Code.region id ops true).wp P Q a w:=by
  simp only [Bool.and_eq_true,beq_iff_eq] at hl
  refine wp_region_any hm (Em (R:=R) _ _ _ _ ?_)
  rw [← hl.1.2];have:=Eo hR hl.1.1 hQ l _ a w.drew (Jj _) hl.2 h
  rw [hl.1.2] at this ⊢;exact this
theorem wp_region_plan {id:Nat} {a:Act} {w:World} (l:List (Nat × Bool)) (hm:P.follows .mixedOrders=true)
    (hl:(Region.noSelect ops&&l.length==ops.size&&uj .any ops l (Array.replicate ops.size false))=true)
    (hQ:∀ c d v a w,Q (.panic c) (a.put d v) w→Q (.panic c) a w)
    (h:jk Ext P ops Q l a w.drew):(Code.region id ops true).wp P Q a w:=wp_region_plan_by Ext later_ext l hm hl hQ h
def opAt:List Oper→Nat→Option Oper
  | [],_=>none
  | o::_,0=>some o
  | _::r,n+1=>opAt r n
theorem mf:∀ (l:List Oper) (i:Nat),opAt l i=l.toArray[i]?
  | [],i=>by simp [opAt]
  | o::r,0=>by simp [opAt]
  | o::r,n+1=>by rw [opAt,mf r n];simp
variable {ls:List Oper}
theorem plan_take {i:Nat} {o:Oper} {v:Value} {r:List (Nat × Bool)} {a:Act} {w:World} (ho:opAt ls i=some o) (hw:Region.wanted o (yielded ls.toArray a.tmps)=true)
    (hy:∀ w',R w w'→(execOp a.eval o).run P w'=.ok (.value v) w') (h:jk R P ls.toArray Q r (a.put o.dst v) w):jk R P ls.toArray Q ((i,false)::r) a w:=
  ⟨o,v,by rw [← mf];exact ho,.inl ⟨hw,fun w' h'=>.inl (hy w' h')⟩,h⟩
theorem plan_quiet {i:Nat} {o:Oper} {v:Value} {r:List (Nat × Bool)} {a:Act} {w:World} {f:FuncId} {args:Array Value} (ho:opAt ls i=some o) (hw:Region.wanted o (yielded ls.toArray a.tmps)=true)
    (hx:∀ w',(execOp a.eval o).run P w'=.ok (.enter f args) w') (hc:∀ w',R w w'→Calls P f args w' fun e w''=>e=.returned v∧w'=w'') (h:jk R P ls.toArray Q r (a.put o.dst v) w):jk R P ls.toArray Q ((i,false)::r) a w:=
  ⟨o,v,by rw [← mf];exact ho,.inl ⟨hw,fun w' h'=>.inr ⟨f,args,hx w',hc w' h'⟩⟩,h⟩
theorem plan_skip {i:Nat} {o:Oper} {r:List (Nat × Bool)} {a:Act} {w:World} (ho:opAt ls i=some o) (hw:Region.wanted o (yielded ls.toArray a.tmps)=false)
    (h:jk R P ls.toArray Q r (a.put o.dst undef) w):jk R P ls.toArray Q ((i,false)::r) a w:=
  ⟨o,undef,by rw [← mf];exact ho,.inr ⟨hw,rfl⟩,h⟩
theorem Jl (hR:Later R) {i:Nat} {o:Oper} {r:List (Nat × Bool)} {a:Act} {w:World} (ho:opAt ls i=some o) (hw:Region.wanted o (yielded ls.toArray a.tmps)=false)
    (h:jk R P ls.toArray Q r (a.put o.dst undef) w):jk R P ls.toArray Q ((i,true)::r) a w:=by
  show wpOp P ls.toArray Q i _ a w
  unfold wpOp;simp only [← mf,ho,hw]
  exact ⟨.inr (hR.refl w),h⟩
theorem plan_turn {i:Nat} {o:Oper} {r:List (Nat × Bool)} {a:Act} {w:World} (ho:opAt ls i=some o) (hw:Region.wanted o (yielded ls.toArray a.tmps)=true)
    (h:∀ K:Act→World→Prop,(∀ a' w',R w w'∧jk R P ls.toArray Q r a' w'→K a' w')→o.wp P a w K Q):jk R P ls.toArray Q ((i,true)::r) a w:=by
  show wpOp P ls.toArray Q i _ a w
  unfold wpOp;simp only [← mf,ho,hw,if_true]
  exact .inl (h _ fun _ _ h=>⟨.inr h.1,h.2⟩)
theorem nL {i:Nat} {o:Oper} {r:List (Nat × Bool)} {a:Act} {w:World} (ho:opAt ls i=some o) (hw:Region.wanted o (yielded ls.toArray a.tmps)=true) (hall:jJ .any ls.toArray i=true)
    (h:∀ K:Act→World→Prop,(∀ a' w',jk R P ls.toArray Q r a' w'→K a' w')→o.wp P a w K Q):jk R P ls.toArray Q ((i,true)::r) a w:=by
  show wpOp P ls.toArray Q i _ a w
  unfold wpOp;simp only [← mf,ho,hw,if_true]
  exact .inl (h _ fun _ _ h=>⟨.inl hall,h⟩)
theorem aG {a:Act} {w:World} (h:Q .normal a w):jk R P ops Q [] a w:=h
theorem plan_call {i:Nat} {o:Oper} {r:List (Nat × Bool)} {a:Act} {w:World} {f:FuncId} {args:Array Value} (ho:opAt ls i=some o) (hw:Region.wanted o (yielded ls.toArray a.tmps)=true)
    (hx:(execOp a.eval o).run P w=.ok (.enter f args) w)
    (h:Calls P f args w fun e w'=>∃ v,e=.returned v∧R w w'∧jk R P ls.toArray Q r (a.put o.dst v) w'):jk R P ls.toArray Q ((i,true)::r) a w:=by
  refine plan_turn ho hw fun K hK=>?_
  unfold Oper.wp;rw [hx];refine h.mono ?_
  rintro e w' ⟨v,rfl,h1,h2⟩;exact hK _ _ ⟨h1,h2⟩
end
end Go.Proofs.YtnebdlchogmneaaGreatDoor
namespace Go.Proofs.YtnebdlchogmneaaGreatDoor
open Go.RowKit Go.ChangeShapes
theorem Qv {x:Int} (h:(Lit.int .u8 x).wf=true):0≤x∧x<256:=by
  simp [Lit.wf,IntKind.min,IntKind.max,IntKind.signed,IntKind.bits] at h
  omega
theorem BP {x:Int} (h:(Lit.int .u64 x).wf=true):0≤x∧x<18446744073709551616:=by
  simp [Lit.wf,IntKind.min,IntKind.max,IntKind.signed,IntKind.bits] at h
  omega
def zz (g:TypeId→Option (List TypeId)) (cells:TypeId→Nat):List Field→List TypeId→Option (List TypeId)
  | [],acc=>some acc
  | fd::r,acc =>
    match g fd.type with
    | some l=>if fd.offset=acc.length∧cells fd.type=l.length then zz g cells r (acc++l) else none
    | none=>none
def vU (l:List TypeId):Nat→List TypeId
  | 0=>[]
  | n+1=>vU l n++l
def leaves (P:Program):Nat→TypeId→Option (List TypeId)
  | 0,_=>none
  | f+1,t =>
    match P.underlying t with
    | some (.struct fs)=>match zz (leaves P f) P.cellsOf fs.toList [] with
      | some ls=>if P.cellsOf t=ls.length then some ls else none
      | none=>none
    | some (.array n e)=>match leaves P f e with
      | some l=>if P.cellsOf e=l.length∧P.cellsOf t=n*l.length then some (vU l n) else none
      | none=>none
    | some _=>if P.cellsOf t=1 then some [t] else none
    | none=>none
def Good (R:TypeId→Value→Prop) (ls:List TypeId) (cs:List Value):Prop:=∀ (i:Nat) (tl:TypeId) (v:Value),ls[i]? = some tl→cs[i]? = some v→R tl v
theorem Jm {R:TypeId→Value→Prop} {a l:List TypeId} {cs:List Value} (ha:Good R a cs) (hl:Good R l ((cs.drop a.length).take l.length)):Good R (a++l) cs:=by
  intro i tl v h1 h2;rcases Nat.lt_or_ge i a.length with h|h
  · rw [List.getElem?_append_left h] at h1;exact ha i tl v h1 h2
  · rw [List.getElem?_append_right h] at h1
    have hlt:i-a.length<l.length:=by
      rcases Nat.lt_or_ge (i-a.length) l.length with h3|h3
      · exact h3
      · rw [List.getElem?_eq_none h3] at h1;cases h1
    refine hl (i-a.length) tl v h1 ?_
    rw [List.getElem?_take,if_pos hlt,List.getElem?_drop,show a.length+(i-a.length)=i by omega]
    exact h2
theorem Jn {R:TypeId→Value→Prop} {g:TypeId→Option (List TypeId)} {cells:TypeId→Nat} {cs:List Value}:∀ (fs:List Field) (acc ls:List TypeId),zz g cells fs acc=some ls→Good R acc cs →
    (∀ fd∈fs,∀ l,g fd.type=some l→Good R l ((cs.drop fd.offset).take (cells fd.type)))→Good R ls cs
  | [],acc,ls,h,ha,_=>by simp only [zz,Option.some.injEq] at h;subst h;exact ha
  | fd::r,acc,ls,h,ha,hf=>by
    simp only [zz] at h
    split at h
    · rename_i l hl
      split at h
      · rename_i hc
        obtain ⟨h1,h2⟩:=hc
        have:=hf fd (by simp) l hl
        rw [h1,h2] at this;exact Jn r _ _ h (Jm ha this) (fun x hx=>hf x (by simp [hx]))
      · cases h
    · cases h
theorem Jo (l:List TypeId):∀ n,(vU l n).length=n*l.length
  | 0=>by simp [vU]
  | n+1=>by simp [vU,Jo l n,Nat.succ_mul]
theorem Jp {R:TypeId→Value→Prop} {l:List TypeId} {cs:List Value}:∀ (n:Nat),(∀ i,i<n→Good R l ((cs.drop (i*l.length)).take l.length))→Good R (vU l n) cs
  | 0,_=>fun i tl v h _=>by simp [vU] at h
  | n+1,h=>Jm (Jp n fun i hi=>h i (by omega)) (by rw [Jo];exact h n (by omega))
section
variable {H:Type} {enc:TypeId × Value→H} {P:Program} {w:World} {base:Nat} {spare:Nat→Bool} {held:Bool}
theorem Qw {n:Nat} {t:TypeId} {cs:List Value} {x:DataW H × List MemPlace} (h1:∀ fs,P.underlying t≠some (.struct fs)) (h2:∀ k e,P.underlying t≠some (.array k e)) (h:DataW.trod enc P w base spare held n t cs=some x):∃ c,cs = [c]:=by
  cases n with
  | zero=>simp [DataW.trod] at h
  | succ n =>
    unfold DataW.trod at h
    split at h
    all_goals first|exact ⟨_,rfl⟩|(rename_i hh;exact absurd hh (h1 _))|(rename_i hh;exact absurd hh (h2 _ _))|cases h
theorem trod_leaves:∀ (f:Nat) (t:TypeId) (ls:List TypeId),leaves P f t=some ls→∀ (n:Nat) (cs:List Value) (x:DataW H × List MemPlace),DataW.trod enc P w base spare held n t cs=some x →
    Good (fun tl v=>∃ m y,DataW.trod enc P w base spare held m tl [v]=some y) ls cs
  | 0,_,_,h,_,_,_,_=>by simp [leaves] at h
  | f+1,t,ls,h,n,cs,x,hx=>by
    simp only [leaves] at h
    split at h
    · rename_i fs ht
      split at h
      · rename_i ls' hls
        split at h
        · injection h with h
          subst h;obtain ⟨xs,m,_,_,hcl,hlen,hg⟩:=DataW.trod_struct ht hx
          refine Jn _ _ _ hls (fun i tl v h=>by simp at h) fun fd mY l hl=>?_
          obtain ⟨i,hi,hfi⟩:=List.getElem_of_mem mY
          have hi2:i<fs.size:=by simpa using hi
          have Qx:fs[i]? = some fd:=by rw [Array.getElem?_eq_getElem hi2,← hfi];simp
          have h1:=hg i fd Qx
          rw [List.getElem?_eq_getElem (by omega)] at h1
          exact trod_leaves f _ _ hl _ _ _ h1
        · cases h
      · cases h
    · rename_i k e ht
      split at h
      · rename_i l hl
        split at h
        · rename_i hc
          injection h with h
          subst h;obtain ⟨xs,m,_,_,hcl,hlen,hg⟩:=DataW.trod_array ht hx
          refine Jp _ fun i hi=>?_
          have h1:=hg i hi
          rw [List.getElem?_eq_getElem (by omega),hc.1] at h1
          exact trod_leaves f _ _ hl _ _ _ h1
        · cases h
      · cases h
    · split at h
      · injection h with h
        subst h;intro i tl v h1 h2
        match i,h1 with
        | 0,h1 =>
          simp at h1
          subst h1
          rename_i d h3 h4 hu hz
          obtain ⟨c,rfl⟩:=Qw (fun fs hh=>h3 fs (Option.some.inj (hu.symm.trans hh))) (fun k e hh=>h4 k e (Option.some.inj (hu.symm.trans hh))) hx
          simp at h2
          subst h2;exact ⟨_,_,hx⟩
        | i+1,h1=>simp at h1
      · cases h
    · cases h
end
theorem okWide_row {P:Program} {w:World} {r:Reach} {b0:Nat} {t:TypeId} {v:Value} (ht:(∃ fs,P.underlying t=some (.struct fs))∨∃ n e,P.underlying t=some (.array n e)) (h:Value.okWide P w r b0 t v):∃ cs,v=.agg cs∧cs.size=P.cellsOf t:=by
  rcases ht with ⟨fs,ht⟩|⟨n,e,ht⟩ <;> (simp only [Value.okWide,ht] at h;obtain ⟨cs,h1,h2,_⟩:=h;exact ⟨cs,h1,h2⟩)
end Go.Proofs.YtnebdlchogmneaaGreatDoor
namespace Go.Proofs.YtnebdlchogmneaaGreatDoor
open Go.RowKit
theorem Ep {P:Program} {c:Code} {Q:Exit→Act→World→Prop} {a:Act} {w:World} (h:∀ w0,w0=w→c.wp P Q a w0):c.wp P Q a w:=h w rfl
theorem gY {g i:Nat} {w w':World} {v:Value} (h:bO g w w'):bO g w (w'.setCell ⟨g,i,none⟩ v):=fun p hp=>by
  rw [World.cell?_setCell_other _ _ _ _ (by rintro rfl;exact hp rfl)];exact h p hp
theorem gZ {g:Nat} {w w':World} (h:bO g w w'):bO g w.drew w'.drew:=h
theorem cB {w:World} {a:Addr} {v:Value} (h:w.cell? a=some v):a.block<w.heap.size:=World.block_lt_of_cell? _ _ h
theorem Jq {w w':World} {c:Array Value} {t:TypeId} {i:Nat} (h:Below (w.alloc (.cells c t)).heap.size (w.alloc (.cells c t)) w'):w'.cell? ⟨w.heap.size,i,none⟩=c[i]?:=by
  rw [h.cell (by simp),World.cell?_alloc_new]
def aI (w:World) (g:Nat) (t:TypeId) (fr:Nat × Nat) (cs:Array Value):Prop:=w.heap[g]? = some (.cells cs t fr)
section
variable {w w':World} {g:Nat} {t:TypeId} {cs:Array Value} {fr:Nat × Nat}
theorem aI.lt (h:aI w g t fr cs):g<w.heap.size:=by
  rcases Nat.lt_or_ge g w.heap.size with hlt|hge
  · exact hlt
  · unfold aI at h;rw [Array.getElem?_eq_none hge] at h;cases h
theorem aI.cell (h:aI w g t fr cs) (i:Nat):w.cell? ⟨g,i,none⟩=cs[i]?:=cell_of_row w g i cs t fr h
theorem aI.frozen {lo hi:Nat} (h:aI w g t (lo,hi) cs) (i:Nat):w.frozen? ⟨g,i,none⟩=(decide (lo≤i)&&decide (i<hi)):=by
  unfold aI at h;simp [World.frozen?,h]
theorem aI.bM {n:Nat} (w:World) (t:TypeId) (fr:Nat × Nat) (cs:Array Value) (hn:n=w.heap.size):aI (w.alloc (.cells cs t fr)) n t fr cs:=by subst hn;exact heap_alloc_new w _
theorem aI.drew (h:aI w g t fr cs):aI w.drew g t fr cs:=h
theorem aI.alloc (h:aI w g t fr cs) (o:Obj):aI (w.alloc o) g t fr cs:=(Below.heap_alloc w o g h.lt).trans h
theorem aI.ay (h:aI w g t fr cs) (i:Nat) (u:Value):aI (w.setCell ⟨g,i,none⟩ u) g t fr (cs.setIfInBounds i u):=by
  unfold aI at h ⊢;simp [World.setCell,Array.getElem?_modify,h]
theorem aI.far (h:aI w g t fr cs) {p:Addr} (hp:g≠p.block) (u:Value):aI (w.setCell p u) g t fr cs:=(Below.heap_setCell w p u g hp).trans h
theorem aI.below {B:Nat} (h:aI w g t fr cs) (hb:Below B w w') (hg:g<B):aI w' g t fr cs:=(hb.block g hg).trans h
end
abbrev Blk (w:World) (g:Nat) (t:TypeId) (cs:Array Value):Prop:=aI w g t (0,0) cs
theorem Blk.frozen {w:World} {g:Nat} {t:TypeId} {cs:Array Value} (h:Blk w g t cs) (i:Nat):w.frozen? ⟨g,i,none⟩=false:=by
  rw [aI.frozen h];simp
theorem BQ {P:Program} (w:World) (t e:TypeId) (n:Nat) (cs:Array Value) (k:IntKind) (i:Nat) (v:Value) (h:P.underlying t=some (.array n e))
    (hs:(Go.sizeOf e).run P w=.ok 1 w) (ha:(isAgg e).run P w=.ok false w) (hi:i<n) (hv:cs[i]? = some v):(Instr.index t (.agg cs) (.int k (i:Int))).run P w=.ok v w:=by
  have h1:(0:Int)≤(i:Int)∧(i:Int)<(n:Int):=by omega
  simp [Instr.index,run_underlying h,asIntOf,hs,part,ha,hv,hi]
end Go.Proofs.YtnebdlchogmneaaGreatDoor
namespace Go.Proofs.YtnebdlchogmneaaGreatDoor
open Go.RowKit Go.ChangeShapes
def bv (n:Nat):Value:=.int .u8 (n:Int)
theorem own_below {w w':World} {base:Nat} {e:TypeId} {size:Nat} {v:Value} {n:Nat} {xs:List Value} (h:w.ownsRow base e size v n xs) (hb:Below w.heap.size w w'):w'.ownsRow base e size v n xs:=by
  refine h.kept (row:=none) ⟨hb.os,hb.tape,hb.output,hb.size,fun k hk _=>hb.block k hk⟩ ?_
  cases hv:v.ownBlock with
  | none=>exact .inl rfl
  | some g=>exact .inr (by simp)
def Er (l:List Nat) (w:World) (e:Ending) (w':World):Prop:=
  ∃ v,e=.returned v∧w'.ownsRow w.heap.size 5 1 v l.length (l.map bv)∧Below w.heap.size w w'
theorem Jr {w:World} {base n:Nat} {v:Value} {l:List Nat} (h:w.ownsRow base 5 1 v n (l.map bv)) (hl:∀ i:Nat,l.getD i 0<256) (hn:n=l.length):
    ∃ A c,v=.slice A l.length c∧jI w A l∧(∀ a,A=some a→a.block<w.heap.size):=by
  subst hn;rcases h.2 with ⟨rfl,hx⟩|⟨g,cap,cur,rfl,_,hh,_⟩
  · have:l = []:=by simpa using hx
    subst this;exact ⟨none,0,rfl,⟨hl,fun h=>by simp at h⟩,fun a ha=>by cases ha⟩
  · have hlt:=(h.lt g rfl).2
    refine ⟨_,cap,rfl,⟨hl,fun _=>⟨g,0,rfl,fun i hi=>?_⟩⟩,fun a ha=>by injection ha with ha;subst ha;exact hlt⟩
    have:=h.cells (g:=g) rfl i (bv (l.getD i 0)) (by rw [List.getElem?_map,List.getD_eq_getElem?_getD,List.getElem?_eq_getElem hi];rfl)
    by_cases h0:i=0
    · subst h0;simpa [Addr.add,bv] using this
    · simpa [Addr.add,bv,h0] using this
def Es (l:List Nat):ByteArray:=⟨(l.map UInt8.ofNat).toArray⟩
theorem Qy {w:World} {A:Option Addr} {l:List Nat} {n c:Nat} (h:jI w A l) (hn:l.length=n):
    (convert 29 9 (.slice A n c)).run Tryz.prog w=.ok (.string (Es l)) w:=by
  subst hn;have hs:=Tryz.underlying29
  have he:=Tryz.underlying5
  have hd:=Tryz.underlying9
  rcases Nat.eq_zero_or_pos l.length with h0|h0
  · obtain rfl:l = []:=List.eq_nil_of_length_eq_zero h0
    cases A with
    | none=>exact run_convert_bytes_nil w _ _ hs he 0 c _ hd
    | some a =>
      have hl:(loadCells a 0).run Tryz.prog w=.ok (([]:List Int).map (Value.int .u8)).toArray w:=by
        have:=run_loadCells_list (P:=Tryz.prog) w a [] (fun j v hj=>by simp at hj)
        simpa using this
      rw [run_convert_bytes_string w _ _ _ _ _ c hs he hd];show (Conv.bytesToString (.slice (some a) 0 c)).run Tryz.prog w=_
      rw [run_bytesToString w a 0 c [] hl]
      rfl
  · obtain ⟨b,o,rfl,hc⟩:=h.2 h0
    have:=run_convert_bytes_arg (P:=Tryz.prog) w _ _ hs he b o l.length c (l.map Int.ofNat) (by simp) (fun i hi=>by
      rw [hc i hi];simp [List.getElem?_eq_getElem hi]) _ hd
    rw [this];simp [strOfNums,Es,Function.comp_def]
theorem Et {w:World} {A:Option Addr} {l:List Nat} (h:jI w A l):Reads w w.heap.size 1 A l.length (l.map bv):=by
  refine ⟨by simp,fun hl=>?_⟩
  obtain ⟨b,o,rfl,hc⟩:=h.2 hl
  refine ⟨_,rfl,cB (hc 0 hl),fun j u hu=>?_⟩
  have hj:j<l.length:=by
    rcases Nat.lt_or_ge j l.length with h1|h1
    · exact h1
    · rw [List.getElem?_eq_none (by simpa using h1)] at hu;cases hu
  have e:(⟨b,o,none⟩:Addr).add j=⟨b,o+j,none⟩:=by unfold Addr.add;split <;> simp_all
  rw [e,hc j hj];rw [List.getElem?_map,List.getElem?_eq_getElem hj] at hu;simp at hu
  rw [← hu,List.getD_eq_getElem?_getD,List.getElem?_eq_getElem hj]
  rfl
theorem BR (l:List Nat):∀ u∈l.map bv,u.oneCell'=true:=by
  intro u hu;obtain ⟨x,_,rfl⟩:=List.mem_map.1 hu
  rfl
theorem Qz {P:Program} (w:World) (t e:TypeId) (a:Option Addr) (l c:Nat) (h:P.underlying t=some (.slice e)):(binOp .eql t (.slice a l c) (.slice none 0 0)).run P w=.ok (.bool a.isNone) w:=by
  simp [binOp,run_equal_slice_nil,h,Sem.run_bind,Result.andThen]
end Go.Proofs.YtnebdlchogmneaaGreatDoor
