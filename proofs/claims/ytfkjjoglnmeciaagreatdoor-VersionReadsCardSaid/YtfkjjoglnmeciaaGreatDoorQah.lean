/- The walks and laws that the claim leans on, part 8. -/
import Derived.Test.YtfkjjoglnmeciaaGreatDoorQag
import Derived.Lib.EndianBits
set_option maxRecDepth 100000
set_option maxHeartbeats 16000000
namespace Go.Proofs.YtfkjjoglnmeciaaGreatDoor
open Go.Lib (hid)
section
open Go.RowKit
def RetTry (w:World) (g:Nat) (xs:List Nat) (sz:Nat) (e:Ending) (w':World):Prop:=∃ c:Bool,e = .returned (.bool c)∧SortI w w' g xs sz
theorem partialIns_any (g n cap sz a b:Nat) (xs:List Nat) (w:World) (h:SortI w w g xs sz) (hl:xs.length=n) (hab:a < b) (hb:b≤n) (hn:n≤1000000) (hc:n≤cap) (hcm:cap≤9223372036854775807) :
  Calls Tryz.prog 256 #[.slice (some ⟨g,0,none⟩) n cap, .int .i64 (a:Int), .int .i64 (b:Int)] w (RetTry w g xs sz):=by
 have H:=hid h;have HL:=hid hl;clear h hl;go_enter Tryz.func256,Tryz.ntmps256
 go_wp2;go_loopw [7,8] (fun i j wr=>∃ (k d:Nat),a+1≤k∧k≤b∧d≤5∧i = .int .i64 k∧j = .int .i64 d∧Hid (SortI w wr g xs sz)) (fun _ j _=>5 - (RowKit.intOf j).toNat)
 case atStart=>exact ⟨a+1,0,oM,oM,oM,by go_num,by go_num,H⟩
 case round =>
  clear H;obtain ⟨k0,d,hk01,hk02,hd5,rfl,rfl,H⟩:=hrel;by_cases hlt5:d < 5
  ·have e5:decide ((d:Int) < 5)=true:=dT
   go_upto_block 2 with fail
   go_cut [7] from 13 to 132 (fun v wx=>∃ k:Nat,v = .int .i64 k∧k0≤k∧k≤b∧Hid (SortI w wx g xs sz))
   case first =>
    go_wp2_with fail
    go_loopw [7] (fun i wr=>∃ k:Nat,k0≤k∧k≤b∧i = .int .i64 k∧Hid (SortI w wr g xs sz)) (fun i _=>b - (RowKit.intOf i).toNat)
    case atStart=>exact ⟨k0,oM,oM,rfl,H⟩
    case round =>
     clear H;obtain ⟨k,hk1,hk2,rfl,H⟩:=hrel;by_cases hle:k < b
     ·obtain ⟨q',rfl⟩:∃ q',k=q'+1:=⟨k - 1,oM⟩
      have e2:(q':Int)+1 < (n:Int):=oM;have e3:(q':Int) < (n:Int):=oM;have e4:decide ((q':Int)+1 < (b:Int))=true:=dT;have e6:((q':Int)+1).toNat=q'+1:=oM;have e8:IntKind.i64.wrap (q':Int)=(q':Int):=by rw [IntKind.wrap_i64];omega
      have e9:(0:Int)≤(q':Int)+1:=oM;go_wp2_with fail
      obtain ⟨x1,c1,z1⟩:=H.out.at_ (i:=(q'+1)) (by have:=HL.out;omega);obtain ⟨x2,c2,z2⟩:=H.out.at_ (i:=q') (by have:=HL.out;omega);obtain ⟨bb,HLs⟩:=less_some x1 x2;go_quiet ((go_at_call 257;exact Calls.quiet_of_same (HLs.out _)))
      have H1:=hid (H.out.drewN nq);clear c1 c2 z1 z2 H;cases bb
      ·go_wp2_with fail
       go_roundw
       case rel=>exact ⟨q'+2,oM,oM,by go_num,H1⟩
       case measure=>simp [RowKit.intOf];omega
      ·go_wp2_with fail
       go_meet;exact ⟨q'+1,by go_num,hk1,hk2,H1⟩
     ·have e4:decide ((k:Int) < (b:Int))=false:=dF
      go_wp2_with fail
      go_quiet (fail)
      have H1:=hid (H.out.drewN nq);go_wp2_with fail
      go_meet;exact ⟨k,rfl,hk1,hk2,H1⟩
   case rest =>
    clear H;obtain ⟨k,rfl,hk1,hk2,H⟩:=hcut;by_cases hkb:k=b
    ·subst hkb
     go_wp2_with fail
     go_ret;exact ⟨true,rfl,H.out⟩
    ·have e1:((k:Int) == (b:Int))=false:=by
      rw [beq_eq_false_iff_ne];omega
     by_cases h50:b < a+50
     ·have e2:decide ((b:Int) - (a:Int) < 50)=true:=dT
      go_wp2_with fail
      go_ret;exact ⟨false,rfl,H.out⟩
     ·have e2:decide ((b:Int) - (a:Int) < 50)=false:=dF
      obtain ⟨q',rfl⟩:∃ q',k=q'+1:=⟨k - 1,oM⟩
      have e3:(q':Int) < (n:Int):=oM;have e4:(q':Int)+1 < (n:Int):=oM;have e6:((q':Int)+1).toNat=q'+1:=oM;have e8:IntKind.i64.wrap (q':Int)=(q':Int):=by rw [IntKind.wrap_i64];omega
      have e9:(0:Int)≤(q':Int)+1:=oM;go_wp2_with fail
      obtain ⟨x1,c1,z1⟩:=H.out.at_ (i:=(q'+1)) (by have:=HL.out;omega);obtain ⟨x2,c2,z2⟩:=H.out.at_ (i:=q') (by have:=HL.out;omega);obtain ⟨x3,c3⟩:=H.out.mid (i:=(q'+1)) (j:=q') (by have:=HL.out;omega) (.int .u64 (x2:Int));have H1:=hid (H.out.swap (by have:=HL.out;omega) (by have:=HL.out;omega) c1 c2).drew;clear H;go_region;clear c1 c2 c3 z1 z2;have H:=H1;clear H1;go_upto_if 61 with fail
      go_cut [9] from 13 to 132 (fun _ wx=>Hid (SortI w wx g xs sz))
      case first =>
       by_cases h2:a+2≤q'+1
       ·have e10:decide (2≤(q':Int)+1 - (a:Int))=true:=dT
        go_wp2_with fail
        go_loopw [9] (fun i wr=>∃ k:Nat,k≤q'∧i = .int .i64 k∧Hid (SortI w wr g xs sz)) (fun i _=>(RowKit.intOf i).toNat)
        case atStart=>exact ⟨q',oM,by go_num,H⟩
        case round =>
         clear H;obtain ⟨k,hk1,rfl,H⟩:=hrel;by_cases h1:1≤k
         ·obtain ⟨r,rfl⟩:∃ r,k=r+1:=⟨k - 1,oM⟩
          have f1:(r:Int) < (n:Int):=oM;have f2:(r:Int)+1 < (n:Int):=oM;have f3:((r:Int)+1).toNat=r+1:=oM;have f4:IntKind.i64.wrap (r:Int)=(r:Int):=by rw [IntKind.wrap_i64];omega
          have f5:(0:Int)≤(r:Int)+1:=oM;have f6:decide (1≤(r:Int)+1)=true:=dT;go_wp2_with fail
          obtain ⟨x1,c1,z1⟩:=H.out.at_ (i:=(r+1)) (by have:=HL.out;omega);obtain ⟨x2,c2,z2⟩:=H.out.at_ (i:=r) (by have:=HL.out;omega);obtain ⟨bb,HLs⟩:=less_some x1 x2;go_quiet ((go_at_call 257;exact Calls.quiet_of_same (HLs.out _)))
          have H1:=hid (H.out.drewN nq);clear c1 c2 z1 z2 H;cases bb
          ·go_wp2_with fail
           go_meet;exact H1
          ·have H:=H1
           clear H1;generalize wr.drewN nq=wr at *;obtain ⟨x1,c1,z1⟩:=H.out.at_ (i:=(r+1)) (by have:=HL.out;omega);obtain ⟨x2,c2,z2⟩:=H.out.at_ (i:=r) (by have:=HL.out;omega);obtain ⟨x3,c3⟩:=H.out.mid (i:=(r+1)) (j:=r) (by have:=HL.out;omega) (.int .u64 (x2:Int));have H1:=hid (H.out.swap (by have:=HL.out;omega) (by have:=HL.out;omega) c1 c2).drew;clear H;go_wp2_with fail
           go_region;clear c1 c2 c3 z1 z2;go_wp2_with fail
           go_roundw
           case rel=>exact ⟨r,oM,by go_num,H1⟩
           case measure=>simp [RowKit.intOf]
         ·have f6:decide (1≤(k:Int))=false:=dF
          go_wp2_with fail
          go_meet;exact H
       ·have e10:decide (2≤(q':Int)+1 - (a:Int))=false:=dF
        go_wp2_with fail
        go_meet;exact H
      case rest =>
       clear H;have H:=hcut;clear hcut;by_cases h2:q'+3≤b
       ·have e10:decide (2≤(b:Int) - ((q':Int)+1))=true:=dT
        go_wp2_with fail
        go_loopw [10] (fun i wr=>∃ k:Nat,q'+2≤k∧k≤b∧i = .int .i64 k∧Hid (SortI w wr g xs sz)) (fun i _=>b - (RowKit.intOf i).toNat)
        case atStart=>exact ⟨q'+2,oM,oM,by go_num,H⟩
        case round =>
         clear H;obtain ⟨k,hk0,hk1,rfl,H⟩:=hrel;by_cases h1:k < b
         ·obtain ⟨r,rfl⟩:∃ r,k=r+1:=⟨k - 1,oM⟩
          have f1:(r:Int) < (n:Int):=oM;have f2:(r:Int)+1 < (n:Int):=oM;have f3:((r:Int)+1).toNat=r+1:=oM;have f4:IntKind.i64.wrap (r:Int)=(r:Int):=by rw [IntKind.wrap_i64];omega
          have f5:(0:Int)≤(r:Int)+1:=oM;have f6:decide ((r:Int)+1 < (b:Int))=true:=dT;go_wp2_with fail
          obtain ⟨x1,c1,z1⟩:=H.out.at_ (i:=(r+1)) (by have:=HL.out;omega);obtain ⟨x2,c2,z2⟩:=H.out.at_ (i:=r) (by have:=HL.out;omega);obtain ⟨bb,HLs⟩:=less_some x1 x2;go_quiet ((go_at_call 257;exact Calls.quiet_of_same (HLs.out _)))
          have H1:=hid (H.out.drewN nq);clear c1 c2 z1 z2 H;cases bb
          ·go_wp2_with fail
           go_roundw
           case rel=>exact ⟨q'+1,d+1,oM,oM,oM,by go_num,by go_num,H1⟩
           case measure=>simp [RowKit.intOf];omega
          ·have H:=H1
           clear H1;generalize wr.drewN nq=wr at *;obtain ⟨x1,c1,z1⟩:=H.out.at_ (i:=(r+1)) (by have:=HL.out;omega);obtain ⟨x2,c2,z2⟩:=H.out.at_ (i:=r) (by have:=HL.out;omega);obtain ⟨x3,c3⟩:=H.out.mid (i:=(r+1)) (j:=r) (by have:=HL.out;omega) (.int .u64 (x2:Int));have H1:=hid (H.out.swap (by have:=HL.out;omega) (by have:=HL.out;omega) c1 c2).drew;clear H;go_wp2_with fail
           go_region;clear c1 c2 c3 z1 z2;go_wp2_with fail
           go_roundw
           case rel=>exact ⟨r+2,oM,oM,by go_num,H1⟩
           case measure=>simp [RowKit.intOf];omega
         ·have f6:decide ((k:Int) < (b:Int))=false:=dF
          go_wp2_with fail
          go_roundw
          case rel=>exact ⟨q'+1,d+1,oM,oM,oM,by go_num,by go_num,H⟩
          case measure=>simp [RowKit.intOf];omega
       ·have e10:decide (2≤(b:Int) - ((q':Int)+1))=false:=dF
        go_wp2_with fail
        go_roundw
        case rel=>exact ⟨q'+1,d+1,oM,oM,oM,by go_num,by go_num,H⟩
        case measure=>simp [RowKit.intOf];omega
  ·have e5:decide ((d:Int) < 5)=false:=dF
   go_wp2_with fail
   go_ret;exact ⟨false,rfl,H.out⟩
end
section
open Go.RowKit Go.Sort
theorem setCell_twice (w:World) (b o:Nat) (v v':Value):(w.setCell ⟨b,o,none⟩ v).setCell ⟨b,o,none⟩ v'=w.setCell ⟨b,o,none⟩ v':=by
 rw [setCell_eq,setCell_eq,mapBlock_mapBlock,setCell_eq];congr 1
 funext c
 simp
def RetNext (w:World) (s:Nat) (e:Ending) (w':World):Prop:=∃ v:Nat,v < 18446744073709551616∧e = .returned (.int .u64 (v:Int))∧w'=(w.setCell ⟨s,0,none⟩ (.int .u64 (v:Int))).drewN 3
theorem next_any (s X:Nat) (hX:X < 18446744073709551616) (w:World) (hc:w.cell? ⟨s,0,none⟩=some (.int .u64 (X:Int))) (hf:w.frozen? ⟨s,0,none⟩=false) :
  Calls Tryz.prog 304 #[.pointer (some ⟨s,0,none⟩)] w (RetNext w s):=by
 obtain ⟨A,hA⟩:∃ A:Nat,A=X ^^^ (X * 8192 % 18446744073709551616):=⟨_,rfl⟩
 obtain ⟨B,hB⟩:∃ B:Nat,B=A ^^^ (A / 128):=⟨_,rfl⟩
 obtain ⟨C,hC⟩:∃ C:Nat,C=B ^^^ (B * 131072 % 18446744073709551616):=⟨_,rfl⟩
 have lA:A < 18446744073709551616:=by rw [hA];exact Nat.xor_lt_two_pow (n:=64) oM oM
 have lB:B < 18446744073709551616:=by rw [hB];exact Nat.xor_lt_two_pow (n:=64) oM oM
 have lC:C < 18446744073709551616:=by rw [hC];exact Nat.xor_lt_two_pow (n:=64) oM oM
 have e1:bits .xor .u64 (X:Int) (IntKind.u64.wrap ((X:Int) * 8192))=(A:Int):=by
  rw [IntKind.wrap_u64,show ((X:Int) * 8192 % 18446744073709551616)=((X * 8192 % 18446744073709551616:Nat):Int) by omega,bits_xor_u64_nat _ _ hX (oM),hA]
 have e2:bits .xor .u64 (A:Int) ((A:Int) / 128)=(B:Int):=by
  rw [show ((A:Int) / 128)=((A / 128:Nat):Int) by omega,bits_xor_u64_nat _ _ lA (oM),hB]
 have e3:bits .xor .u64 (B:Int) (IntKind.u64.wrap ((B:Int) * 131072))=(C:Int):=by
  rw [IntKind.wrap_u64,show ((B:Int) * 131072 % 18446744073709551616)=((B * 131072 % 18446744073709551616:Nat):Int) by omega,bits_xor_u64_nat _ _ lB (oM),hC]
 clear hA hB hC;have hss:∀ v v',(w.setCell ⟨s,0,none⟩ v).setCell ⟨s,0,none⟩ v'=w.setCell ⟨s,0,none⟩ v':=setCell_twice w s 0;go_enter Tryz.func304,Tryz.ntmps304
 go_wp2;go_region;all_goals go_wp2
 all_goals go_region
 all_goals go_wp2
 all_goals go_region
 all_goals go_wp2
 go_ret;exact ⟨C,lC,rfl,rfl⟩
theorem bitLen_two (x:Nat) (h0:0 < x) (h:x≤1000000):2 ^ Lib.bitLen x≤2 * x∧Lib.bitLen x≤20:=by
 obtain ⟨h1,h2,h3⟩:=Lib.bitLenAux_bounds 64 x oM oM;refine ⟨?_,Lib.bitLen_le x 20 oM oM⟩;have:2 ^ Lib.bitLen x=2 * 2 ^ (Lib.bitLenAux 64 x - 1):=by
  unfold Lib.bitLen;rw [← Nat.pow_succ'];congr 1
  omega
 omega
theorem tab_at (y:Nat) (h:y < 256) (hy:y < Lib.len8tab.size):((Lib.len8tab[y]'hy).toNat:Nat)=Lib.bitLen y∧Lib.bitLen y≤8:=by
 have e:=Lib.len8_eq ⟨y,h⟩;unfold Lib.len8 at e;have g:Lib.len8tab[y]?=some (Lib.len8tab[y]'hy):=getElem?_pos _ _ _;simp only [Int.toNat_natCast,g,Option.getD_some] at e;exact ⟨by exact_mod_cast e,Lib.bitLen_le8 ⟨y,h⟩⟩
theorem len_any (n:Nat) (w:World) (hn:n≤1000000) :
  Calls Tryz.prog 109 #[.int .u64 (n:Int)] w fun e w'=>e = .returned (.int .i64 (Lib.bitLen n:Int))∧w'=w:=by
 have e1:IntKind.u64.wrap (n:Int)=(n:Int):=by rw [IntKind.wrap_u64];omega
 have e2:decide ((4294967296:Int)≤(n:Int))=false:=dF;have e5:(0:Int)≤(n:Int):=oM;by_cases h1:n < 256
 ·have e3:decide ((65536:Int)≤(n:Int))=false:=dF
  have e4:decide ((256:Int)≤(n:Int))=false:=dF;have e6:(n:Int) < 256:=oM;go_enter Tryz.func109,Tryz.ntmps109
  go_wp2_with go_in
  go_ret;refine ⟨congrArg Ending.returned (congrArg (Value.int IntKind.i64) ?_),rfl⟩;have ht:=tab_at (n) oM (by rw [Lib.len8tab_size];omega);rw [ht.1];unfold wrap64;omega
 ·by_cases h2:n < 65536
  ·have e3:decide ((65536:Int)≤(n:Int))=false:=dF
   have e4:decide ((256:Int)≤(n:Int))=true:=dT;have e6:(n:Int) / 256 < 256:=oM;have e7:(0:Int)≤(n:Int) / 256:=oM;go_enter Tryz.func109,Tryz.ntmps109
   go_wp2_with go_in
   go_ret;refine ⟨congrArg Ending.returned (congrArg (Value.int IntKind.i64) ?_),rfl⟩;have ht:=tab_at (n / 256) oM (by rw [Lib.len8tab_size];omega);rw [ht.1,Lib.bitLen_shift8 n oM oM];unfold wrap64;omega
  ·have e3:decide ((65536:Int)≤(n:Int))=true:=dT
   have e4:decide ((256:Int)≤(n:Int) / 65536)=false:=dF;have e6:(n:Int) / 65536 < 256:=oM;have e7:(0:Int)≤(n:Int) / 65536:=oM;go_enter Tryz.func109,Tryz.ntmps109
   go_wp2_with go_in
   go_ret;refine ⟨congrArg Ending.returned (congrArg (Value.int IntKind.i64) ?_),rfl⟩;have ht:=tab_at (n / 65536) oM (by rw [Lib.len8tab_size];omega);rw [ht.1,Lib.bitLen_shift16 n oM oM];unfold wrap64;omega
end
namespace Crc
def nib:List Nat:=[0,274646895,549293790,820201905,1098587580,1361435347,1640403810,1905808397,2197175160,2460548119,2722870694,2987750089,3280807620,3553878443,3811616794,4084100981]
def half (x:Nat):Nat:=x / 16 ^^^ nib.getD (x % 16) 0
def step (r b:Nat):Nat:=half (half (r ^^^ b))
def reg (r:Nat) (l:List Nat):Nat:=l.foldl step r
def ones:Nat:=4294967295
def update (c:Nat) (l:List Nat):Nat:=reg (c ^^^ ones) l ^^^ ones
def sum (l:List Nat):Nat:=update 0 l
theorem nib_lt (i:Nat) (hi:i < 16):nib.getD i 0 < 4294967296:=by
 revert i;decide
theorem xor_lt {x y:Nat} (hx:x < 4294967296) (hy:y < 4294967296):x ^^^ y < 4294967296:=Nat.xor_lt_two_pow (n:=32) hx hy
theorem half_lt {x:Nat} (h:x < 4294967296):half x < 4294967296:=xor_lt oM (nib_lt _ (Nat.mod_lt _ oM))
theorem step_lt {r b:Nat} (hr:r < 4294967296) (hb:b < 256):step r b < 4294967296:=half_lt (half_lt (xor_lt hr oM))
theorem reg_lt {r:Nat} {l:List Nat} (hr:r < 4294967296) (hl:∀ b∈l,b < 256):reg r l < 4294967296:=by
 induction l generalizing r with
 | nil=>exact hr
 | cons b l ih=>exact ih (step_lt hr (hl b (by simp))) (fun c hc=>hl c (by simp [hc]))
theorem reg_append (r:Nat) (l m:List Nat):reg r (l++m)=reg (reg r l) m:=List.foldl_append ..
theorem reg_snoc (r:Nat) (l:List Nat) (b:Nat):reg r (l++[b])=step (reg r l) b:=by rw [reg_append];rfl
theorem sum_lt {l:List Nat} (hl:∀ b∈l,b < 256):sum l < 4294967296:=xor_lt (reg_lt (by decide) hl) (by decide)
end Crc
section
open Go.RowKit
theorem step_core (r b x i t y j u z:Nat) (w:World) (e1:bits .xor .u32 (r:Int) (b:Int)=(x:Int)) (e2:bits .and .u32 (x:Int) 15=(i:Int)) (hi:i < 16)
  (hc:w.cell? ⟨1,i,none⟩=some (.int .u32 t)) (e3:bits .xor .u32 ((x:Int) / 16) (t:Int)=(y:Int))
  (e4:bits .and .u32 (y:Int) 15=(j:Int)) (hj:j < 16)
  (hd:w.cell? ⟨1,j,none⟩=some (.int .u32 u)) (e5:bits .xor .u32 ((y:Int) / 16) (u:Int)=(z:Int)) (hb:b < 256) :
  Calls Tryz.prog 321 #[.int .u32 r, .int .u8 b] w fun e w'=>e = .returned (.int .u32 z)∧w=w':=by
 go_enter Tryz.func321,Tryz.ntmps321
 go_wp2;go_ret;exact ⟨rfl,rfl⟩
def Tab (w:World):Prop:=∀ i,i < 16→w.cell? ⟨1,i,none⟩=some (.int .u32 ((Crc.nib.getD i 0:Nat):Int))
theorem Tab.size {w:World} (h:Tab w):1 < w.heap.size:=World.block_lt_of_cell? _ _ (h 0 oM)
theorem Tab.below {w w':World} (h:Tab w) (hb:Below w.heap.size w w'):Tab w':=fun i hi=>(hb.cell h.size).trans (h i hi)
theorem Tab.chg {w w':World} {S:Fp} (h:Tab w) (hb:Chg S w w') (hS:¬ S 1):Tab w':=fun i hi=>(World.cell?_of_block (w:=w) (hb.block _ h.size hS)).trans (h i hi)
theorem u32_lit15 (x:Nat) (hx:x < 4294967296):bits .and .u32 (x:Int) 15=((x % 16:Nat):Int):=by
 have h:=u32_and_nat x 15 hx oM;rw [show ((15:Nat):Int)=15 from rfl] at h;rw [h,show (15:Nat)=2 ^ 4 - 1 from rfl,Nat.and_two_pow_sub_one_eq_mod]
theorem half_bits (x:Nat) (hx:x < 4294967296):bits .xor .u32 ((x:Int) / 16) ((Crc.nib.getD (x % 16) 0:Nat):Int)=((Crc.half x:Nat):Int):=by
 rw [show ((x:Int) / 16)=((x / 16:Nat):Int) by omega];exact u32_xor_nat _ _ oM (Crc.nib_lt _ (Nat.mod_lt _ oM))
theorem step_any (r b:Nat) (hr:r < 4294967296) (hb:b < 256) (w:World) (ht:Tab w) :
  Calls Tryz.prog 321 #[.int .u32 r, .int .u8 b] w fun e w'=>e = .returned (.int .u32 ((Crc.step r b:Nat):Int))∧w=w':=by
 have hx:r ^^^ b < 4294967296:=Crc.xor_lt hr oM;have hy:=Crc.half_lt hx;exact step_core r b (r ^^^ b) _ _ _ _ _ _ w (u32_xor_nat r b hr oM) (u32_lit15 _ hx) (Nat.mod_lt _ oM) (ht _ (Nat.mod_lt _ oM)) (half_bits _ hx)
  (u32_lit15 _ hy) (Nat.mod_lt _ oM) (ht _ (Nat.mod_lt _ oM)) (half_bits _ hy) hb
def u8s (l:List Nat):List Value:=l.map fun (b:Nat)=>Value.int .u8 (b:Int)
theorem u8s_at {l:List Nat} {k:Nat} {u:Value} (h:(u8s l)[k]?=some u):∃ hk:k < l.length,u = .int .u8 ((l[k]:Nat):Int):=by
 simp only [u8s,List.getElem?_map,Option.map_eq_some_iff] at h;obtain ⟨a,ha,rfl⟩:=h;obtain ⟨hk,rfl⟩:=List.getElem?_eq_some_iff.1 ha;exact ⟨hk,rfl⟩
theorem take_snoc (l:List Nat) (k:Nat) (h:k < l.length):l.take (k+1)=l.take k++[l[k]]:=by
 rw [List.take_succ_eq_append_getElem h]
theorem u32_not (x:Nat) (hx:x < 4294967296):bits .xor .u32 IntKind.u32.max (x:Int)=((x ^^^ Crc.ones:Nat):Int):=by
 have h:=u32_xor_nat 4294967295 x oM hx;rw [show IntKind.u32.max=((4294967295:Nat):Int) from rfl,h,Nat.xor_comm];rfl
theorem update_any (c:Nat) (hc:c < 4294967296) (A:Option Addr) (n cap B:Nat) (l:List Nat) (w:World) (hl:∀ b∈l,b < 256) (hrd:Reads w B 1 A n (u8s l)) (hn:n≤1000000) (ht:Tab w) :
  Calls Tryz.prog 403 #[.int .u32 c, .slice A n cap] w fun e w'=>e = .returned (.int .u32 ((Crc.update c l:Nat):Int))∧w=w':=by
 have HN:=hid (show l.length=n by have:=hrd.1;simpa [u8s] using this);have HT:=hid ht;have HL:=hid hl;have HR:=hid hrd;obtain ⟨x0,hx0⟩:∃ x0,x0=c ^^^ Crc.ones:=⟨_,rfl⟩
 have e0:bits .xor .u32 IntKind.u32.max (c:Int)=(x0:Int):=by rw [hx0];exact u32_not c hc
 have b0:x0 < 4294967296:=by rw [hx0];exact Crc.xor_lt hc (by decide)
 have HX:=hid hx0;clear ht hl hrd hx0;go_enter Tryz.func403,Tryz.ntmps403
 go_wp2;clear e0;go_loop [5,12] (fun r i=>∃ k:Nat,k≤n∧i = .int .i64 k∧r = .int .u32 ((Crc.reg x0 (l.take k):Nat):Int)) (fun _ i=>n - (RowKit.intOf i).toNat)
 case atStart=>exact ⟨0,Nat.zero_le _,rfl,rfl⟩
 case round =>
  obtain ⟨k,hk,rfl,rfl⟩:=hrel;have hreg:Crc.reg x0 (l.take k) < 4294967296:=Crc.reg_lt b0 (fun b hb=>HL.out b (List.mem_of_mem_take hb));by_cases hlt:k < n
  ·obtain ⟨ad,u,hA,_,hu,hcell⟩:=HR.out.at_ hlt
   obtain ⟨hkl,rfl⟩:=u8s_at hu;have HS:Hid (Crc.step (Crc.reg x0 (l.take k)) l[k]=Crc.reg x0 (l.take (k+1))):=by
    rw [take_snoc l k hkl,Crc.reg_snoc];rfl
   have hb:l[k] < 256:=HL.out _ (List.getElem_mem hkl);clear hu;subst hA;generalize l[k]=b at *;generalize hr:Crc.reg x0 (l.take k)=r at *;have HRr:=hid hr;clear hr;go_wp2_with (go_at_call 321;refine (step_any _ _ hreg hb _ HT.out).mono ?_;rintro e w' ⟨rfl,rfl⟩)
   go_round
   case rel=>exact ⟨k+1,oM,by go_num,by rw [HS.out]⟩
   case measure=>simp [RowKit.intOf];omega
  ·have hkn:k=n:=oM
   have HE:Hid (Crc.reg x0 (l.take k) ^^^ Crc.ones=Crc.update c l):=by
    show _=_;rw [List.take_of_length_le (by have:=HN.out;omega),HX.out];rfl
   have e9:=u32_not _ hreg;generalize Crc.reg x0 (l.take k) ^^^ Crc.ones=z at *;generalize Crc.reg x0 (l.take k)=r at *;clear hkn;go_wp2;go_ret;exact ⟨by rw [← HE.out];rfl,rfl⟩
theorem sum_any (A:Option Addr) (n cap B:Nat) (l:List Nat) (w:World) (hl:∀ b∈l,b < 256) (hrd:Reads w B 1 A n (u8s l)) (hn:n≤1000000) (ht:Tab w) :
  Calls Tryz.prog 395 #[.slice A n cap] w fun e w'=>e = .returned (.int .u32 ((Crc.sum l:Nat):Int))∧w=w':=by
 have HL:=hid hl;have HR:=hid hrd;have HT:=hid ht;clear hl hrd ht;go_enter Tryz.func395,Tryz.ntmps395
 have h:=update_any 0 oM A n cap B l w HL.out HR.out hn HT.out;rw [show ((0:Nat):Int)=0 from rfl] at h;have HC:=hid h;clear h;go_wp2_with (go_at_call 403;refine HC.out.mono ?_;rintro e w' ⟨rfl,rfl⟩)
 go_ret;exact ⟨rfl,rfl⟩
end
section
open Go.RowKit
def pOff (p:Nat):Nat:=p % 4294967296 * 8
def pGen (p:Nat):Nat:=p / 4294967296 % 65536
def pKind (p:Nat):Nat:=p / 281474976710656 % 256
def pAt (p k:Nat):Nat:=if p=0∨60≤k then 0 else pOff p+8 * k
def pMk (off gen kind:Nat):Nat:=off / 8+gen * 4294967296+kind * 281474976710656
theorem pMk_off {off gen kind:Nat} (h8:off % 8=0) (ho:off < 34359738368):pOff (pMk off gen kind)=off:=by
 unfold pOff pMk;omega
theorem pMk_gen {off gen kind:Nat} (ho:off < 34359738368) (hg:gen < 65536):pGen (pMk off gen kind)=gen:=by
 unfold pGen pMk;omega
theorem pMk_kind {off gen kind:Nat} (ho:off < 34359738368) (hg:gen < 65536) (hk:kind < 256):pKind (pMk off gen kind)=kind:=by
 unfold pKind pMk;omega
theorem pMk_lt {off gen kind:Nat} (ho:off < 34359738368) (hg:gen < 65536) (hk:kind < 128):pMk off gen kind < 18446744073709551616∧pMk off gen kind / 72057594037927936=0:=by
 unfold pMk;omega
theorem pMk_ne {off gen kind:Nat} (hg:0 < gen):pMk off gen kind≠0:=by
 unfold pMk;omega
section
theorem off_any (p:Nat) (w:World):Calls Tryz.prog 135 #[.int .u64 (p:Int)] w fun e w'=>e = .returned (.int .u64 (pOff p:Int))∧w=w':=by
 have e1:IntKind.u32.wrap (p:Int)=((p % 4294967296:Nat):Int):=by rw [IntKind.wrap_u32];omega
 have e2:IntKind.u64.wrap ((p % 4294967296:Nat):Int)=((p % 4294967296:Nat):Int):=by rw [IntKind.wrap_u64];omega
 have HP:Hid ((pOff p:Int)=((p % 4294967296:Nat):Int) * 8):=hid (by unfold pOff;omega);have h1:p % 4294967296 < 4294967296:=oM;generalize pOff p=r at *;generalize p % 4294967296=q at *;go_enter Tryz.func135,Tryz.ntmps135
 go_wp2;go_ret;exact ⟨by rw [HP.out];rfl,rfl⟩
theorem gen_any (p:Nat) (w:World):Calls Tryz.prog 199 #[.int .u64 (p:Int)] w fun e w'=>e = .returned (.int .u16 (pGen p:Int))∧w=w':=by
 have e1:IntKind.u16.wrap ((p:Int) / 4294967296)=(pGen p:Int):=by unfold pGen;rw [IntKind.wrap_u16];omega
 generalize pGen p=r at *;go_enter Tryz.func199,Tryz.ntmps199
 go_wp2;go_ret;exact ⟨rfl,rfl⟩
theorem kind_any (p:Nat) (w:World):Calls Tryz.prog 150 #[.int .u64 (p:Int)] w fun e w'=>e = .returned (.int .u8 (pKind p:Int))∧w=w':=by
 have e1:IntKind.u8.wrap ((p:Int) / 281474976710656)=(pKind p:Int):=by unfold pKind;rw [IntKind.wrap_u8];omega
 generalize pKind p=r at *;go_enter Tryz.func150,Tryz.ntmps150
 go_wp2;go_ret;exact ⟨rfl,rfl⟩
theorem nil_any (p:Nat) (w:World):Calls Tryz.prog 22 #[.int .u64 (p:Int)] w fun e w'=>e = .returned (.bool (decide (p=0)))∧w=w':=by
 have e1:((p:Int) == 0)=decide (p=0):=by
  by_cases h:p=0
  ·subst h;rfl
  ·rw [decide_eq_false h,beq_eq_false_iff_ne];omega
 generalize decide (p=0)=b at *;go_enter Tryz.func22,Tryz.ntmps22
 go_wp2;go_ret;exact ⟨rfl,rfl⟩
theorem at_any (p k:Nat) (hk:k≤1000000000) (w:World):Calls Tryz.prog 49 #[.int .u64 (p:Int), .int .i64 (k:Int)] w fun e w'=>e = .returned (.int .u64 (pAt p k:Int))∧w=w':=by
 have HN:=hid (nil_any p w);have HO:=hid (off_any p w);have hk0:(0:Int)≤(k:Int):=oM;by_cases h0:p=0
 ·have hr:(pAt p k:Int)=0:=by unfold pAt;rw [if_pos (.inl h0)];rfl
  rw [hr];rw [decide_eq_true h0] at HN;clear hr h0;go_enter Tryz.func49,Tryz.ntmps49
  go_wp2_with (go_at_call 22;refine HN.out.mono ?_;rintro e w1 ⟨rfl,rfl⟩)
  go_ret;exact ⟨rfl,rfl⟩
 ·rw [decide_eq_false h0] at HN
  by_cases h1:60≤k
  ·have hr:(pAt p k:Int)=0:=by unfold pAt;rw [if_pos (.inr h1)];rfl
   have d1:decide (60≤(k:Int))=true:=dT;rw [hr];clear hr h0;go_enter Tryz.func49,Tryz.ntmps49
   go_wp2_with (go_at_call 22;refine HN.out.mono ?_;rintro e w1 ⟨rfl,rfl⟩)
   go_ret;exact ⟨rfl,rfl⟩
  ·have hr:(pAt p k:Int)=(pOff p:Int)+8 * (k:Int):=by unfold pAt;rw [if_neg oM];omega
   have d1:decide (60≤(k:Int))=false:=dF;have u1:IntKind.u64.wrap (k:Int)=(k:Int):=by rw [IntKind.wrap_u64];omega
   have ho:pOff p≤34359738368:=by unfold pOff;omega
   have HR:=hid hr;clear hr h0;generalize pOff p=r at *;generalize pAt p k=z at *;go_enter Tryz.func49,Tryz.ntmps49
   go_wp2_with (first
    | (go_at_call 22;refine HN.out.mono ?_;rintro e w1 ⟨rfl,rfl⟩)
    | (go_at_call 135;refine HO.out.mono ?_;rintro e w1 ⟨rfl,rfl⟩))
   go_ret;exact ⟨by rw [HR.out];rfl,rfl⟩
theorem make_or (o g k:Nat) (ho:o < 4294967296) (hg:g < 65536) (hk:k < 256):bits .or .u64 (bits .or .u64 (o:Int) ((g:Int) * 4294967296)) ((k:Int) * 281474976710656)=((o+g * 4294967296+k * 281474976710656:Nat):Int):=by
 rw [Go.u64_or32 (y:=(o:Int)) (x:=(g:Int) * 4294967296) oM oM oM oM oM];rw [Go.u64_or48 (y:=(o:Int)+(g:Int) * 4294967296) (x:=(k:Int) * 281474976710656) oM oM oM oM oM];omega
theorem ptrMake_any (off gen kind:Nat) (h8:off % 8=0) (h0:0 < off) (ho:off≤1000000000) (hg0:0 < gen) (hg:gen < 65536) (hk0:0 < kind) (hk:kind < 128) (w:World) :
  Calls Tryz.prog 300 #[.int .u64 (off:Int), .int .u16 (gen:Int), .int .u8 (kind:Int)] w fun e w'=>e = .returned (.tuple #[.int .u64 (pMk off gen kind:Int), .int .i64 0])∧w=w':=by
 have e1:((off:Int) == 0)=false:=by rw [beq_eq_false_iff_ne];omega
 have e2:(off:Int) % 8=0:=oM;have e3:((gen:Int) == 0)=false:=by rw [beq_eq_false_iff_ne];omega
 have e4:((kind:Int) == 0)=false:=by rw [beq_eq_false_iff_ne];omega
 have e5:decide (127 < (kind:Int))=false:=dF;have e6:decide (34359738360 < (off:Int))=false:=dF;obtain ⟨o8,ho8⟩:∃ o8,off / 8=o8:=⟨_,rfl⟩
 have e7:(off:Int) / 8=(o8:Int):=oM;have e8:IntKind.u64.wrap (gen:Int)=(gen:Int):=by rw [IntKind.wrap_u64];omega
 have e9:IntKind.u64.wrap (kind:Int)=(kind:Int):=by rw [IntKind.wrap_u64];omega
 have ea:bits .or .u64 (bits .or .u64 (o8:Int) ((gen:Int) * 4294967296)) ((kind:Int) * 281474976710656)=(pMk off gen kind:Int):=by
  rw [make_or _ _ _ oM hg oM];unfold pMk;rw [ho8]
 generalize pMk off gen kind=r at *;go_enter Tryz.func300,Tryz.ntmps300
 go_wp2;go_ret2;exact ⟨rfl,rfl⟩
end
end
section
open Go.RowKit Go.Maps
def SetD (D:DataW Unit) (l:List Nat):Prop:=∀ x,D.atKey (kU x) (.lit (.bool false)) = .lit (.bool (decide (x∈l)))
theorem SetD.nil:SetD (.map []) []:=fun x=>by simp [DataW.atKey]
theorem kU_ne {x y:Nat} (h:x≠y):kU x≠kU y:=fun e=>h (kU_inj e)
theorem kU_key (x:Nat):WideAt.IsKeyLit (kU x):=by simp [WideAt.IsKeyLit]
theorem SetD.put {D:DataW Unit} {l:List Nat} (h:SetD D l) (hm:IsMap D) (o:Nat):SetD (D.put (kU o) (.lit (.bool true))) (o :: l):=fun x=>by
 by_cases hx:x=o
 ·subst hx;rw [atKey_put_same hm (kU_key x)];simp
 ·rw [atKey_put_other (kU_ne hx),h x];simp [hx]
theorem keyU {x:Nat} (h:x < 18446744073709551616):keyOf Tryz.prog 32 (.int .u64 (x:Int))=some (kU x):=keyOf_int_mk Tryz.underlying32 (wf_u64_nat h)
theorem keyedU:Keyed Tryz.prog 32:=int_keyed Tryz.underlying32
theorem plainElem_bool_inv {P:Program} {e:TypeId} (he:P.underlying e=some .bool) {v:Value} {z:DataW Unit × List MemPlace} (h:plainElem P e v=some z):∃ b,v = .bool b∧z=(.lit (.bool b),[]):=by
 cases v <;> simp [plainElem,he] at h
 rename_i b
 exact ⟨b,rfl,h.symm⟩
def frStep (st:List Nat × List Nat) (o:Nat):List Nat × List Nat:=if o∈st.1 then st else (o :: st.1,st.2++[o])
def fr (seen offs:List Nat):List Nat × List Nat:=offs.foldl frStep (seen,[])
end
section
open Go.RowKit
def RetPow (l:Nat) (w:World) (e:Ending) (w':World):Prop:=∃ M:Nat,e = .returned (.int .u64 (M:Int))∧1≤M∧M≤2 * l∧w'=w
theorem nextPow_any (l:Nat) (h0:0 < l) (h:l≤1000000) (w:World) :
  Calls Tryz.prog 303 #[.int .i64 (l:Int)] w (RetPow l w):=by
 have HLn:=hid (len_any l w h);have e1:IntKind.u64.wrap (l:Int)=(l:Int):=by rw [IntKind.wrap_u64];omega
 obtain ⟨hb,hk⟩:=bitLen_two l h0 h;have h1:1≤2 ^ Lib.bitLen l:=Nat.two_pow_pos _;generalize Lib.bitLen l=k at *;obtain ⟨M,hM⟩:∃ M:Nat,M=2 ^ k:=⟨_,rfl⟩
 have hp:IntKind.u64.wrap ((2:Int) ^ k)=(M:Int):=by
  rw [IntKind.wrap_u64,show ((2:Int) ^ k)=((2 ^ k:Nat):Int) by push_cast;rfl,← hM];omega
 rw [← hM] at hb h1;clear hM;go_enter Tryz.func303,Tryz.ntmps303
 go_wp2_with (first
  | (go_at_call 109;refine HLn.out.mono ?_;rintro e w' ⟨rfl,rfl⟩))
 go_ret;exact ⟨M,rfl,h1,hb,rfl⟩
structure RanI (w wr:World) (g:Nat) (xs:List Nat) (sz s:Nat):Prop where
 row:SortI w wr g xs sz
 new:w.heap.size≤s
 ne:s≠g
 ran:∃ z:Nat,z < 18446744073709551616∧Blk wr s 412 #[.int .u64 (z:Int)]
theorem RanI.next {w wr:World} {g sz s:Nat} {xs:List Nat} (h:RanI w wr g xs sz s) (v:Nat) (hv:v < 18446744073709551616):RanI w ((wr.setCell ⟨s,0,none⟩ (.int .u64 (v:Int))).drewN 3) g xs sz s:=by
 obtain ⟨z,_,hB⟩:=h.ran;exact ⟨(h.row.other h.new h.ne _).drewN 3,h.new,h.ne,v,hv,(hB.set_ 0 _).drewN 3⟩
theorem RanI.swap {w wr:World} {g sz s:Nat} {xs:List Nat} (h:RanI w wr g xs sz s) {i j x y:Nat} (hi:i < xs.length) (hj:j < xs.length) (hx:wr.cell? ⟨g,i,none⟩=some (.int .u64 (x:Int))) (hy:wr.cell? ⟨g,j,none⟩=some (.int .u64 (y:Int))) :
  RanI w (((wr.setCell ⟨g,i,none⟩ (.int .u64 (y:Int))).setCell ⟨g,j,none⟩ (.int .u64 (x:Int)))).drew g xs sz s:=by
 obtain ⟨z,hz,hB⟩:=h.ran;exact ⟨(h.row.swap hi hj hx hy).drew,h.new,h.ne,z,hz,((hB.far h.ne _).far h.ne _).drew⟩
theorem RanI.start {w:World} {g sz:Nat} {xs:List Nat} (h:SortI w w g xs sz) (l:Nat) (hl:l < 18446744073709551616):RanI w (w.alloc (.cells #[.int .u64 (l:Int)] 412)) g xs sz w.heap.size:=by
 have hg:g < w.heap.size:=by obtain ⟨cs,ys,h1,_⟩:=h;exact h1.lt
 refine ⟨?_,nL _,oM,l,hl,Blk.new _ _ _⟩;obtain ⟨cs,ys,h1,h2,h3,h4,h5⟩:=h;exact ⟨cs,ys,h1.alloc _,h2,h3,h4,h5.below ((Below.refl _ w).alloc (nL _) _)⟩
theorem breakP_any (g n cap sz a l:Nat) (xs:List Nat) (w:World) (h:SortI w w g xs sz) (hl:xs.length=n) (hb:a+l≤n) (h8:8≤l) (hn:n≤1000000) (hc:n≤cap) (hcm:cap≤9223372036854775807) :
  Calls Tryz.prog 253 #[.slice (some ⟨g,0,none⟩) n cap, .int .i64 (a:Int), .int .i64 ((a+l:Nat):Int)] w (RetSort w g xs sz):=by
 have HR:=hid (RanI.start h l oM);have HL:=hid hl;have HP:=hid (nextPow_any l oM oM);have e1:IntKind.u64.wrap (l:Int)=(l:Int):=by rw [IntKind.wrap_u64];omega
 clear h hl;go_enter Tryz.func253,Tryz.ntmps253
 go_wp2_with fail
 rw [show ((a:Int)+(l:Int) - (a:Int))=(l:Int) by omega];refine (HP.out _).mono ?_;rintro e w1 ⟨M,rfl,hM1,hM2,rfl⟩;clear HP;generalize w.alloc (.cells #[.int .u64 (l:Int)] 412)=W at *;go_wp2_with fail
 go_loopw [9] (fun vi wr=>∃ P:Nat,vi = .int .i64 (P:Int)∧a+l / 4 * 2≤P+1∧P≤a+l / 4 * 2+2∧Hid (RanI w wr g xs sz w.heap.size)) (fun vi _=>a+l / 4 * 2+3 - (RowKit.intOf vi).toNat)
 case atStart=>exact ⟨a+l / 4 * 2 - 1,by congr 1;omega,oM,oM,HR⟩
 case round =>
  clear HR;obtain ⟨P,rfl,hP1,hP2,HR⟩:=hrel;by_cases hP:P≤a+l / 4 * 2+1
  ·have e2:decide ((P:Int)≤(a:Int)+(l:Int) / 4 * 2+1)=true:=dT
   obtain ⟨z,hz,hB⟩:=HR.out.ran;have HN:=hid (next_any w.heap.size z hz wr (hB.cell 0) (hB.frozen 0));have e3:(P:Int) < (n:Int):=oM;clear hB hz;go_wp2_with fail
   refine HN.out.mono ?_;rintro e w2 ⟨R,hR,rfl,rfl⟩;obtain ⟨O,hO⟩:∃ O:Nat,O=R &&& (M - 1):=⟨_,rfl⟩
   have lO:O≤M - 1:=by rw [hO];exact Nat.and_le_right
   have eAnd:bits .and .u64 (R:Int) ((M:Int) - 1)=(O:Int):=by
    rw [show ((M:Int) - 1)=((M - 1:Nat):Int) by omega,bits_and_u64_nat _ _ hR (oM),hO]
   have HR2:=hid (HR.out.next R hR);clear hO HN HR;generalize (wr.setCell ⟨w.heap.size,0,none⟩ (.int .u64 (R:Int))).drewN 3=wr at *;by_cases hLO:l≤O
   ·have e4:decide ((l:Int)≤(O:Int))=true:=dT
    obtain ⟨K,hK⟩:∃ K:Nat,K=a+(O - l):=⟨_,rfl⟩
    have k1:(0:Int)≤(a:Int)+((O:Int) - (l:Int)):=oM;have k2:(a:Int)+((O:Int) - (l:Int)) < (n:Int):=oM;have k3:((a:Int)+((O:Int) - (l:Int))).toNat=K:=oM;clear hK;go_wp2_with fail
    obtain ⟨x1,c1,z1⟩:=HR2.out.row.at_ (i:=P) (by have:=HL.out;omega);obtain ⟨x2,c2,z2⟩:=HR2.out.row.at_ (i:=K) (by have:=HL.out;omega);obtain ⟨x3,c3⟩:=HR2.out.row.mid (i:=P) (j:=K) (by have:=HL.out;omega) (.int .u64 (x2:Int));have H1:=hid (HR2.out.swap (by have:=HL.out;omega) (by have:=HL.out;omega) c1 c2);clear HR2;by_cases hEq:P=K
    ·subst hEq
     obtain rfl:x1=x2:=by
      rw [c1] at c2;simp at c2;omega
     go_region;clear c1 c2 c3 z1 z2;go_wp2_with fail
     go_roundw
     case rel=>exact ⟨P+1,by go_num,oM,oM,H1⟩
     case measure=>simp [RowKit.intOf];omega
    ·go_region
     clear c1 c2 c3 z1 z2;go_wp2_with fail
     go_roundw
     case rel=>exact ⟨P+1,by go_num,oM,oM,H1⟩
     case measure=>simp [RowKit.intOf];omega
   ·have e4:decide ((l:Int)≤(O:Int))=false:=dF
    obtain ⟨K,hK⟩:∃ K:Nat,K=a+O:=⟨_,rfl⟩
    have k1:(0:Int)≤(a:Int)+(O:Int):=oM;have k2:(a:Int)+(O:Int) < (n:Int):=oM;have k3:((a:Int)+(O:Int)).toNat=K:=oM;clear hK;go_wp2_with fail
    obtain ⟨x1,c1,z1⟩:=HR2.out.row.at_ (i:=P) (by have:=HL.out;omega);obtain ⟨x2,c2,z2⟩:=HR2.out.row.at_ (i:=K) (by have:=HL.out;omega);obtain ⟨x3,c3⟩:=HR2.out.row.mid (i:=P) (j:=K) (by have:=HL.out;omega) (.int .u64 (x2:Int));have H1:=hid (HR2.out.swap (by have:=HL.out;omega) (by have:=HL.out;omega) c1 c2);clear HR2;by_cases hEq:P=K
    ·subst hEq
     obtain rfl:x1=x2:=by
      rw [c1] at c2;simp at c2;omega
     go_region;clear c1 c2 c3 z1 z2;go_wp2_with fail
     go_roundw
     case rel=>exact ⟨P+1,by go_num,oM,oM,H1⟩
     case measure=>simp [RowKit.intOf];omega
    ·go_region
     clear c1 c2 c3 z1 z2;go_wp2_with fail
     go_roundw
     case rel=>exact ⟨P+1,by go_num,oM,oM,H1⟩
     case measure=>simp [RowKit.intOf];omega
  ·have e2:decide ((P:Int)≤(a:Int)+(l:Int) / 4 * 2+1)=false:=dF
   go_wp2_with fail
   go_end0;exact ⟨rfl,HR.out.row⟩
end
end Go.Proofs.YtfkjjoglnmeciaaGreatDoor
