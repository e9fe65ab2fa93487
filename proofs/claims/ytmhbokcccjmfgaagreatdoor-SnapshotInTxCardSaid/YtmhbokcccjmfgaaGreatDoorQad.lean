/- part 4 -/
import Derived.Test.YtmhbokcccjmfgaaGreatDoorQac
import Derived.Lib.EndianBits
import Derived.Test.YtmhbokcccjmfgaaGreatDoorCards
import Derived.Test.YtmhbokcccjmfgaaGreatDoorTie
import Derived.ProofKit
import Derived.OpenShut
import Derived.Deep.DeepHandedRow
import Derived.Lib.LaidTab
import Derived.Shelf.SlIter.Sorted
import Derived.Deep.Fields
set_option maxRecDepth 100000
set_option maxHeartbeats 16000000
namespace Go.Proofs.YtmhbokcccjmfgaaGreatDoor
open Go.Lib (hid)
section
open Go.RowKit
def v2n(w:World)(g:Nat)(xs:List Nat)(sz:Nat)(e:Ending)(w':World):Prop:=∃c:Bool,e=.returned c/\z0t w w' g xs sz
theorem y3z g n cap sz a b xs w (h:z0t w w g xs sz) (hl:xs.length=n) (hab:a<b) (hb:b<=n) (hn:n<=1000000) (hc:n<=cap) (hcm:cap<=9223372036854775807) :
  () 288 #[(g,0,n,cap),[a],[b]] w (v2n w g xs sz):=by
 have H:=hid h;have HL:=hid hl;clear h hl;go_enter Tryz.func288,Tryz.ntmps288
 go_wp2;go_loopw [7,8] (fun i j wr=>∃(k d:Nat),a+1<=k/\k<=b/\d<=5/\i=↑[k]/\j=↑[d]/\Hid (z0t w wr g xs sz)) (fun _ j _=>5-(RowKit.intOf j).toNat)
 case atStart=>exact⟨a+1,0,oM,oM,oM,by go_num,by go_num,H⟩
 case round =>
  clear H;obtain⟨k0,d,Ge,Gf,Gg,rfl,rfl,H⟩:=hrel;by_cases hlt5:d<5
  ·have e5:decide ((d:Int)<5)=true:=dT
   go_upto_block 2 with fail
   go_cut [7]from 13 to 132 (fun v wx=>∃k:Nat,v=↑[k]/\k0<=k/\k<=b/\Hid (z0t w wx g xs sz))
   case first =>
    go_wp2_with fail
    go_loopw [7] (fun i wr=>∃k:Nat,k0<=k/\k<=b/\i=↑[k]/\Hid (z0t w wr g xs sz)) (fun i _=>b-(RowKit.intOf i).toNat)
    case atStart=>exact⟨k0,oM,oM,rfl,H⟩
    case round =>
     clear H;obtain⟨k,Gb,Gd,rfl,H⟩:=hrel;by_cases hle:k<b
     ·obtain⟨q',rfl⟩:∃q',k=q'+1:=⟨k-1,oM⟩
      have e2:(q':Int)+1<(n:Int):=oM;have e3:(q':Int)<(n:Int):=oM;have e4:decide ((q':Int)+1<(b:Int))=true:=dT;have e6:((q':Int)+1).toNat=q'+1:=oM;have e8:IntKind.i64.wrap (q':Int)=(q':Int):=by rw[IntKind.wrap_i64];omega
      have e9:(0:Int)<=(q':Int)+1:=oM;go_wp2_with fail
      obtain⟨x1,c1,z1⟩:=H.out.at_ (i:=(q'+1)) (by have:=HL.out;omega);obtain⟨x2,c2,z2⟩:=H.out.at_ (i:=q') (by have:=HL.out;omega);obtain⟨bb,Ga⟩:=z1w x1 x2;go_quiet ((go_at_call 289;exact Calls.quiet_of_same (Ga.out _)))
      have H1:=hid (H.out.drewN nq);clear c1 c2 z1 z2 H;cases bb
      ·go_wp2_with fail
       go_roundw
       case rel=>exact⟨q'+2,oM,oM,by go_num,H1⟩
       case measure=>simp[RowKit.intOf];omega
      ·go_wp2_with fail
       go_meet;exact⟨q'+1,by go_num,Gb,Gd,H1⟩
     ·have e4:decide ((k:Int)<(b:Int))=false:=dF
      go_wp2_with fail
      go_quiet (fail)
      have H1:=hid (H.out.drewN nq);go_wp2_with fail
      go_meet;exact⟨k,rfl,Gb,Gd,H1⟩
   case rest =>
    clear H;obtain⟨k,rfl,Gb,Gd,H⟩:=hcut;by_cases hkb:k=b
    ·subst hkb
     go_wp2_with fail
     go_ret;exact⟨true,rfl,H.out⟩
    ·have e1:((k:Int)==(b:Int))=false:=by
      rw[beq_eq_false_iff_ne];omega
     by_cases h50:b<a+50
     ·have e2:decide ((b:Int)-(a:Int)<50)=true:=dT
      go_wp2_with fail
      go_ret;exact⟨false,rfl,H.out⟩
     ·have e2:decide ((b:Int)-(a:Int)<50)=false:=dF
      obtain⟨q',rfl⟩:∃q',k=q'+1:=⟨k-1,oM⟩
      have e3:(q':Int)<(n:Int):=oM;have e4:(q':Int)+1<(n:Int):=oM;have e6:((q':Int)+1).toNat=q'+1:=oM;have e8:IntKind.i64.wrap (q':Int)=(q':Int):=by rw[IntKind.wrap_i64];omega
      have e9:(0:Int)<=(q':Int)+1:=oM;go_wp2_with fail
      obtain⟨x1,c1,z1⟩:=H.out.at_ (i:=(q'+1)) (by have:=HL.out;omega);obtain⟨x2,c2,z2⟩:=H.out.at_ (i:=q') (by have:=HL.out;omega);obtain⟨x3,c3⟩:=H.out.mid (i:=(q'+1)) (j:=q') (by have:=HL.out;omega) x2;have H1:=hid (H.out.swap (by have:=HL.out;omega) (by have:=HL.out;omega) c1 c2).drew;clear H;go_region;clear c1 c2 c3 z1 z2;have H:=H1;clear H1;go_upto_if 61 with fail
      go_cut [9]from 13 to 132 (fun _ wx=>Hid (z0t w wx g xs sz))
      case first =>
       by_cases h2:a+2<=q'+1
       ·have Gc:decide (2<=(q':Int)+1-(a:Int))=true:=dT
        go_wp2_with fail
        go_loopw [9] (fun i wr=>∃k:Nat,k<=q'/\i=↑[k]/\Hid (z0t w wr g xs sz)) (fun i _=>(RowKit.intOf i).toNat)
        case atStart=>exact⟨q',oM,by go_num,H⟩
        case round =>
         clear H;obtain⟨k,Gb,rfl,H⟩:=hrel;by_cases h1:1<=k
         ·obtain⟨r,rfl⟩:∃r,k=r+1:=⟨k-1,oM⟩
          have f1:(r:Int)<(n:Int):=oM;have f2:(r:Int)+1<(n:Int):=oM;have f3:((r:Int)+1).toNat=r+1:=oM;have f4:IntKind.i64.wrap (r:Int)=(r:Int):=by rw[IntKind.wrap_i64];omega
          have f5:(0:Int)<=(r:Int)+1:=oM;have f6:decide (1<=(r:Int)+1)=true:=dT;go_wp2_with fail
          obtain⟨x1,c1,z1⟩:=H.out.at_ (i:=(r+1)) (by have:=HL.out;omega);obtain⟨x2,c2,z2⟩:=H.out.at_ (i:=r) (by have:=HL.out;omega);obtain⟨bb,Ga⟩:=z1w x1 x2;go_quiet ((go_at_call 289;exact Calls.quiet_of_same (Ga.out _)))
          have H1:=hid (H.out.drewN nq);clear c1 c2 z1 z2 H;cases bb
          ·go_wp2_with fail
           go_meet;exact H1
          ·have H:=H1
           clear H1;generalize wr.drewN nq=wr at*;obtain⟨x1,c1,z1⟩:=H.out.at_ (i:=(r+1)) (by have:=HL.out;omega);obtain⟨x2,c2,z2⟩:=H.out.at_ (i:=r) (by have:=HL.out;omega);obtain⟨x3,c3⟩:=H.out.mid (i:=(r+1)) (j:=r) (by have:=HL.out;omega) x2;have H1:=hid (H.out.swap (by have:=HL.out;omega) (by have:=HL.out;omega) c1 c2).drew;clear H;go_wp2_with fail
           go_region;clear c1 c2 c3 z1 z2;go_wp2_with fail
           go_roundw
           case rel=>exact⟨r,oM,by go_num,H1⟩
           case measure=>simp[RowKit.intOf]
         ·have f6:decide (1<=(k:Int))=false:=dF
          go_wp2_with fail
          go_meet;exact H
       ·have Gc:decide (2<=(q':Int)+1-(a:Int))=false:=dF
        go_wp2_with fail
        go_meet;exact H
      case rest =>
       clear H;have H:=hcut;clear hcut;by_cases h2:q'+3<=b
       ·have Gc:decide (2<=(b:Int)-((q':Int)+1))=true:=dT
        go_wp2_with fail
        go_loopw [10] (fun i wr=>∃k:Nat,q'+2<=k/\k<=b/\i=↑[k]/\Hid (z0t w wr g xs sz)) (fun i _=>b-(RowKit.intOf i).toNat)
        case atStart=>exact⟨q'+2,oM,oM,by go_num,H⟩
        case round =>
         clear H;obtain⟨k,Gh,Gb,rfl,H⟩:=hrel;by_cases h1:k<b
         ·obtain⟨r,rfl⟩:∃r,k=r+1:=⟨k-1,oM⟩
          have f1:(r:Int)<(n:Int):=oM;have f2:(r:Int)+1<(n:Int):=oM;have f3:((r:Int)+1).toNat=r+1:=oM;have f4:IntKind.i64.wrap (r:Int)=(r:Int):=by rw[IntKind.wrap_i64];omega
          have f5:(0:Int)<=(r:Int)+1:=oM;have f6:decide ((r:Int)+1<(b:Int))=true:=dT;go_wp2_with fail
          obtain⟨x1,c1,z1⟩:=H.out.at_ (i:=(r+1)) (by have:=HL.out;omega);obtain⟨x2,c2,z2⟩:=H.out.at_ (i:=r) (by have:=HL.out;omega);obtain⟨bb,Ga⟩:=z1w x1 x2;go_quiet ((go_at_call 289;exact Calls.quiet_of_same (Ga.out _)))
          have H1:=hid (H.out.drewN nq);clear c1 c2 z1 z2 H;cases bb
          ·go_wp2_with fail
           go_roundw
           case rel=>exact⟨q'+1,d+1,oM,oM,oM,by go_num,by go_num,H1⟩
           case measure=>simp[RowKit.intOf];omega
          ·have H:=H1
           clear H1;generalize wr.drewN nq=wr at*;obtain⟨x1,c1,z1⟩:=H.out.at_ (i:=(r+1)) (by have:=HL.out;omega);obtain⟨x2,c2,z2⟩:=H.out.at_ (i:=r) (by have:=HL.out;omega);obtain⟨x3,c3⟩:=H.out.mid (i:=(r+1)) (j:=r) (by have:=HL.out;omega) x2;have H1:=hid (H.out.swap (by have:=HL.out;omega) (by have:=HL.out;omega) c1 c2).drew;clear H;go_wp2_with fail
           go_region;clear c1 c2 c3 z1 z2;go_wp2_with fail
           go_roundw
           case rel=>exact⟨r+2,oM,oM,by go_num,H1⟩
           case measure=>simp[RowKit.intOf];omega
         ·have f6:decide ((k:Int)<(b:Int))=false:=dF
          go_wp2_with fail
          go_roundw
          case rel=>exact⟨q'+1,d+1,oM,oM,oM,by go_num,by go_num,H⟩
          case measure=>simp[RowKit.intOf];omega
       ·have Gc:decide (2<=(b:Int)-((q':Int)+1))=false:=dF
        go_wp2_with fail
        go_roundw
        case rel=>exact⟨q'+1,d+1,oM,oM,oM,by go_num,by go_num,H⟩
        case measure=>simp[RowKit.intOf];omega
  ·have e5:decide ((d:Int)<5)=false:=dF
   go_wp2_with fail
   go_ret;exact⟨false,rfl,H.out⟩
end
section
open Go.RowKit Go.Sort
theorem y7i(w:World)(b o:Nat)(v v':Value):(w.setCell (b,o) v).setCell (b,o) v'=w.setCell (b,o) v':=by
 rw[setCell_eq,setCell_eq,mapBlock_mapBlock,setCell_eq];congr 1
 funext c
 simp
def w8t(w:World)(s:Nat)(e:Ending)(w':World):Prop:=∃v:Nat,v<18446744073709551616/\e=.returned v/\w'=(w.setCell (s,0) v).drewN 3
theorem w6f(s X:Nat)(hX:X<18446744073709551616)(w:World)(hc:w.cell? (s,())=some ↑X)(hf:w.frozen? (s,())=false):
  () 324 #[(s,())] w (w8t w s):=by
 obtain⟨A,hA⟩:∃A:Nat,A=X^^^(X*8192%18446744073709551616):=⟨_,rfl⟩
 obtain⟨B,hB⟩:∃B:Nat,B=A^^^(A/128):=⟨_,rfl⟩
 obtain⟨C,hC⟩:∃C:Nat,C=B^^^(B*131072%18446744073709551616):=⟨_,rfl⟩
 have lA:A<18446744073709551616:=by rw[hA];exact Nat.xor_lt_two_pow (n:=64) oM oM
 have lB:B<18446744073709551616:=by rw[hB];exact Nat.xor_lt_two_pow (n:=64) oM oM
 have lC:C<18446744073709551616:=by rw[hC];exact Nat.xor_lt_two_pow (n:=64) oM oM
 have e1:bits .xor .u64 (X:Int) (IntKind.u64.wrap ((X:Int)*8192))=(A:Int):=by
  rw[IntKind.wrap_u64,show((X:Int)*8192%18446744073709551616)=((X*8192%18446744073709551616:Nat):Int) by omega,bits_xor_u64_nat _ _ hX (oM),hA]
 have e2:bits .xor .u64 (A:Int) ((A:Int)/128)=(B:Int):=by
  rw[show((A:Int)/128)=((A/128:Nat):Int) by omega,bits_xor_u64_nat _ _ lA (oM),hB]
 have e3:bits .xor .u64 (B:Int) (IntKind.u64.wrap ((B:Int)*131072))=(C:Int):=by
  rw[IntKind.wrap_u64,show((B:Int)*131072%18446744073709551616)=((B*131072%18446744073709551616:Nat):Int) by omega,bits_xor_u64_nat _ _ lB (oM),hC]
 clear hA hB hC;have Ga:∀v v',(w.setCell (s,()) v).setCell (s,()) v'=w.setCell (s,()) v':=y7i w s 0;go_enter Tryz.func324,Tryz.ntmps324
 go_wp2;go_region;all_goals go_wp2
 all_goals go_region
 all_goals go_wp2
 all_goals go_region
 all_goals go_wp2
 go_ret;exact⟨C,lC,rfl,rfl⟩
theorem x6r x (h0:0<x) (h:x<=1000000):2^Lib.bitLen x<=2*x/\Lib.bitLen x<=20:=by
 obtain⟨h1,h2,h3⟩:=Lib.bitLenAux_bounds 64 x oM oM;refine⟨?_,Lib.bitLen_le x 20 oM oM⟩;have:2^Lib.bitLen x=2*2^(Lib.bitLenAux 64 x-1):=by
  unfold Lib.bitLen;rw[<- Nat.pow_succ'];congr 1
  omega
 omega
theorem w3e y (h:y<256) (hy:y<Lib.len8tab.size):((Lib.len8tab[y]'hy).toNat:Nat)=Lib.bitLen y/\Lib.bitLen y<=8:=by
 have e:=Lib.len8_eq ⟨y,h⟩;unfold Lib.len8 at e;have g:Lib.len8tab[y]?=some (Lib.len8tab[y]'hy):=getElem?_pos _ _ _;simp only[Int.toNat_natCast,g,Option.getD_some]at e;exact⟨by exact_mod_cast e,Lib.bitLen_le8 ⟨y,h⟩⟩
theorem x2v(n:Nat)(w:World)(hn:n<=1000000):
  () 233 #[n] w fun e w'=>e=.returned [Lib.bitLen n]/\w'=w:=by
 have e1:IntKind.u64.wrap (n:Int)=(n:Int):=by rw[IntKind.wrap_u64];omega
 have e2:decide ((4294967296:Int)<=(n:Int))=false:=dF;have e5:(0:Int)<=(n:Int):=oM;by_cases h1:n<256
 ·have e3:decide ((65536:Int)<=(n:Int))=false:=dF
  have e4:decide ((256:Int)<=(n:Int))=false:=dF;have e6:(n:Int)<256:=oM;go_enter Tryz.func233,Tryz.ntmps233
  go_wp2_with go_in
  go_ret;refine⟨congrArg Ending.returned (congrArg (Value.int IntKind.i64) ?_),rfl⟩;have ht:=w3e (n) oM (by rw[Lib.len8tab_size];omega);rw[ht.1];unfold wrap64;omega
 ·by_cases h2:n<65536
  ·have e3:decide ((65536:Int)<=(n:Int))=false:=dF
   have e4:decide ((256:Int)<=(n:Int))=true:=dT;have e6:(n:Int)/256<256:=oM;have e7:(0:Int)<=(n:Int)/256:=oM;go_enter Tryz.func233,Tryz.ntmps233
   go_wp2_with go_in
   go_ret;refine⟨congrArg Ending.returned (congrArg (Value.int IntKind.i64) ?_),rfl⟩;have ht:=w3e (n/256) oM (by rw[Lib.len8tab_size];omega);rw[ht.1,Lib.bitLen_shift8 n oM oM];unfold wrap64;omega
  ·have e3:decide ((65536:Int)<=(n:Int))=true:=dT
   have e4:decide ((256:Int)<=(n:Int)/65536)=false:=dF;have e6:(n:Int)/65536<256:=oM;have e7:(0:Int)<=(n:Int)/65536:=oM;go_enter Tryz.func233,Tryz.ntmps233
   go_wp2_with go_in
   go_ret;refine⟨congrArg Ending.returned (congrArg (Value.int IntKind.i64) ?_),rfl⟩;have ht:=w3e (n/65536) oM (by rw[Lib.len8tab_size];omega);rw[ht.1,Lib.bitLen_shift16 n oM oM];unfold wrap64;omega
end
namespace Crc
def nib:List Nat:=[0,274646895,549293790,820201905,1098587580,1361435347,1640403810,1905808397,2197175160,2460548119,2722870694,2987750089,3280807620,3553878443,3811616794,4084100981]
def half(x:Nat):Nat:=x/16^^^nib.getD (x%16) 0
def step(r b:Nat):Nat:=half (half (r^^^b))
def reg(r:Nat)(l:List Nat):Nat:=l.foldl step r
def ones:Nat:=4294967295
def update(c:Nat)(l:List Nat):Nat:=reg (c^^^ones) l^^^ones
def sum(l:List Nat):Nat:=update 0 l
theorem nib_lt i (hi:i<16):nib.getD i 0<4294967296:=by
 revert i;decide
theorem xor_lt{x y}(hx:x<4294967296)(hy:y<4294967296):x^^^y<4294967296:=Nat.xor_lt_two_pow (n:=32) hx hy
theorem half_lt{x}(h:x<4294967296):half x<4294967296:=xor_lt oM (nib_lt _ (Nat.mod_lt _ oM))
theorem step_lt{r b}(hr:r<4294967296)(hb:b<256):step r b<4294967296:=half_lt (half_lt (xor_lt hr oM))
theorem reg_lt{r l}(hr:r<4294967296)(hl:∀b∈l,b<256):reg r l<4294967296:=by
 induction l generalizing r with
 |nil=>exact hr
 |cons b l ih=>exact ih (step_lt hr (hl b (by simp))) (fun c hc=>hl c (by simp[hc]))
theorem x8h r l m:reg r (l++m)=reg (reg r l) m:=List.foldl_append ..
theorem reg_snoc r l b:reg r (l++[b])=step (reg r l) b:=by rw[x8h];rfl
theorem sum_lt{l}(hl:∀b∈l,b<256):sum l<4294967296:=xor_lt (reg_lt (by decide) hl) (by decide)
end Crc
section
open Go.RowKit
theorem w3c(r b x i t y j u z:Nat)(w:World)(e1:bits .xor .u32 (r:Int) (b:Int)=(x:Int))(e2:bits .and .u32 (x:Int) 15=(i:Int))(hi:i<16)
  (hc:w.cell? ⟨2,i,none⟩=some (.int .u32 t)) (e3:bits .xor .u32 ((x:Int)/16) (t:Int)=(y:Int))
  (e4:bits .and .u32 (y:Int) 15=(j:Int)) (hj:j<16)
  (hd:w.cell? ⟨2,j,none⟩=some (.int .u32 u)) (e5:bits .xor .u32 ((y:Int)/16) (u:Int)=(z:Int)) (hb:b<256) :
  () 294 #[.int .u32 r,[[b]]] w fun e w'=>e=.returned (.int .u32 z)/\w=w':=by
 go_enter Tryz.func294,Tryz.ntmps294
 go_wp2;go_ret;exact⟨rfl,rfl⟩
def Tab(w:World):Prop:=∀i,i<16->w.cell? (2,i)=some (.int .u32 ((Crc.nib.getD i 0:Nat):Int))
theorem Tab.size{w}(h:Tab w):2<w.heap.size:=World.block_lt_of_cell? _ _ (h 0 oM)
theorem Tab.below{w w'}(h:Tab w)(hb:Blw w w'):Tab w':=fun i hi=>(hb.cell h.size).trans (h i hi)
theorem Tab.chg{w w' S}(h:Tab w)(hb:Chg S w w')(hS:¬S 2):Tab w':=fun i hi=>(World.cell?_of_block (w:=w) (hb.block _ h.size hS)).trans (h i hi)
theorem x0n(x:Nat)(hx:x<4294967296):bits .and .u32 (x:Int) 15=((x%16:Nat):Int):=by
 have h:=u32_and_nat x 15 hx oM;rw[show((15:Nat):Int)=15 from rfl]at h;rw[h,show(15:Nat)=2^4-1 from rfl,Nat.and_two_pow_sub_one_eq_mod]
theorem y9g(x:Nat)(hx:x<4294967296):bits .xor .u32 ((x:Int)/16) ((Crc.nib.getD (x%16) 0:Nat):Int)=((Crc.half x:Nat):Int):=by
 rw[show((x:Int)/16)=((x/16:Nat):Int) by omega];exact u32_xor_nat _ _ oM (Crc.nib_lt _ (Nat.mod_lt _ oM))
theorem x5p(r b:Nat)(hr:r<4294967296)(hb:b<256)(w:World)(ht:Tab w):
  Calls Tryz.prog 294 #[.int .u32 r,.int .u8 b] w fun e w'=>e=.returned (.int .u32 ((Crc.step r b:Nat):Int))/\w=w':=by
 have hx:r^^^b<4294967296:=Crc.xor_lt hr oM;have hy:=Crc.half_lt hx;exact w3c r b (r^^^b) _ _ _ _ _ _ w (u32_xor_nat r b hr oM) (x0n _ hx) (Nat.mod_lt _ oM) (ht _ (Nat.mod_lt _ oM)) (y9g _ hx)
  (x0n _ hy) (Nat.mod_lt _ oM) (ht _ (Nat.mod_lt _ oM)) (y9g _ hy) hb
def u8s(l:List Nat):List Value:=l.map fun (b:Nat)=>Value.int .u8 b
theorem v3v{l k u}(h:(u8s l)[k]?=some u):∃hk:k<l.length,u=.int .u8 ((l[k]:Nat):Int):=by
 simp only[u8s,List.getElem?_map,Option.map_eq_some_iff]at h;obtain⟨a,ha,rfl⟩:=h;obtain⟨hk,rfl⟩:=List.getElem?_eq_some_iff.1 ha;exact⟨hk,rfl⟩
theorem w3f(l:List Nat)(k:Nat)(h:k<l.length):l.take (k+1)=l.take k++[l[k]]:=by
 rw[List.take_succ_eq_append_getElem h]
theorem x3p(x:Nat)(hx:x<4294967296):bits .xor .u32 IntKind.u32.max (x:Int)=((x^^^Crc.ones:Nat):Int):=by
 have h:=u32_xor_nat 4294967295 x oM hx;rw[show IntKind.u32.max=((4294967295:Nat):Int)from rfl,h,Nat.xor_comm];rfl
theorem x8u(c:Nat)(hc:c<4294967296)(A:Option Addr)(n cap B:Nat)(l:List Nat)(w:World)(hl:∀b∈l,b<256)(hrd:z0d w B 1 A n (u8s l))(hn:n<=1000000)(ht:Tab w):
  Calls Tryz.prog 350 #[.int .u32 c,.slice A n cap] w fun e w'=>e=.returned (.int .u32 ((Crc.update c l:Nat):Int))/\w=w':=by
 have HN:=hid (show l.length=n by have:=hrd.1;simpa[u8s] using this);have HT:=hid ht;have HL:=hid hl;have HR:=hid hrd;obtain⟨x0,Gb⟩:∃x0,x0=c^^^Crc.ones:=⟨_,rfl⟩
 have e0:bits .xor .u32 IntKind.u32.max (c:Int)=(x0:Int):=by rw[Gb];exact x3p c hc
 have b0:x0<4294967296:=by rw[Gb];exact Crc.xor_lt hc (by decide)
 have HX:=hid Gb;clear ht hl hrd Gb;go_enter Tryz.func350,Tryz.ntmps350
 go_wp2;clear e0;go_loop [5,12] (fun r i=>∃k:Nat,k<=n/\i=.int .i64 k/\r=.int .u32 ((Crc.reg x0 (l.take k):Nat):Int)) (fun _ i=>n-(RowKit.intOf i).toNat)
 case atStart=>exact⟨0,Nat.zero_le _,rfl,rfl⟩
 case round =>
  obtain⟨k,hk,rfl,rfl⟩:=hrel;have Ga:Crc.reg x0 (l.take k)<4294967296:=Crc.reg_lt b0 (fun b hb=>HL.out b (List.mem_of_mem_take hb));by_cases hlt:k<n
  ·obtain⟨ad,u,hA,_,hu,Gc⟩:=HR.out.at_ hlt
   obtain⟨Gd,rfl⟩:=v3v hu;have HS:Hid (Crc.step (Crc.reg x0 (l.take k)) l[k]=Crc.reg x0 (l.take (k+1))):=by
    rw[w3f l k Gd,Crc.reg_snoc];rfl
   have hb:l[k]<256:=HL.out _ (List.getElem_mem Gd);clear hu;subst hA;generalize l[k]=b at*;generalize hr:Crc.reg x0 (l.take k)=r at*;have Gf:=hid hr;clear hr;go_wp2_with (go_at_call 294;refine(x5p _ _ Ga hb _ HT.out).mono ?_;rintro e w'⟨rfl,rfl⟩)
   go_round
   case rel=>exact⟨k+1,oM,by go_num,by rw[HS.out]⟩
   case measure=>simp[RowKit.intOf];omega
  ·have Ge:k=n:=oM
   have HE:Hid (Crc.reg x0 (l.take k)^^^Crc.ones=Crc.update c l):=by
    show _=_;rw[List.take_of_length_le (by have:=HN.out;omega),HX.out];rfl
   have e9:=x3p _ Ga;generalize Crc.reg x0 (l.take k)^^^Crc.ones=z at*;generalize Crc.reg x0 (l.take k)=r at*;clear Ge;go_wp2;go_ret;exact⟨by rw[<- HE.out];rfl,rfl⟩
theorem v1n A n cap B l w (hl:∀b∈l,b<256) (hrd:z0d w B 1 A n (u8s l)) (hn:n<=1000000) (ht:Tab w) :
  Calls Tryz.prog 341 #[.slice A n cap] w fun e w'=>e=.returned (.int .u32 ((Crc.sum l:Nat):Int))/\w=w':=by
 have HL:=hid hl;have HR:=hid hrd;have HT:=hid ht;clear hl hrd ht;go_enter Tryz.func341,Tryz.ntmps341
 have h:=x8u 0 oM A n cap B l w HL.out HR.out hn HT.out;rw[show((0:Nat):Int)=0 from rfl]at h;have HC:=hid h;clear h;go_wp2_with (go_at_call 350;refine HC.out.mono ?_;rintro e w'⟨rfl,rfl⟩)
 go_ret;exact⟨rfl,rfl⟩
def pOff(p:Nat):Nat:=p%4294967296*8
def pGen(p:Nat):Nat:=p/4294967296%65536
def z2h(p:Nat):Nat:=p/281474976710656%256
def pAt(p k:Nat):Nat:=if p=0\/60<=k then 0 else pOff p+8*k
def pMk(off gen kind:Nat):Nat:=off/8+gen*4294967296+kind*281474976710656
theorem x3a{off gen kind}(h8:off%8=0)(ho:off<34359738368):pOff (pMk off gen kind)=off:=by
 unfold pOff pMk;omega
theorem v1b{off gen kind}(ho:off<34359738368)(hg:gen<65536):pGen (pMk off gen kind)=gen:=by
 unfold pGen pMk;omega
theorem w6l{off gen kind}(ho:off<34359738368)(hg:gen<65536)(hk:kind<256):z2h (pMk off gen kind)=kind:=by
 unfold z2h pMk;omega
theorem w2g{off gen kind}(ho:off<34359738368)(hg:gen<65536)(hk:kind<128):pMk off gen kind<18446744073709551616/\pMk off gen kind/72057594037927936=0:=by
 unfold pMk;omega
theorem w8i{off gen kind}(hg:0<gen):pMk off gen kind≠0:=by
 unfold pMk;omega
section
theorem z4o(p:Nat)(w:World):() 143 #[p] w fun e w'=>e=.returned (pOff p)/\w=w':=by
 have e1:IntKind.u32.wrap (p:Int)=((p%4294967296:Nat):Int):=by rw[IntKind.wrap_u32];omega
 have e2:IntKind.u64.wrap ((p%4294967296:Nat):Int)=((p%4294967296:Nat):Int):=by rw[IntKind.wrap_u64];omega
 have HP:Hid ((pOff p:Int)=((p%4294967296:Nat):Int)*8):=hid (by unfold pOff;omega);have h1:p%4294967296<4294967296:=oM;generalize pOff p=r at*;generalize p%4294967296=q at*;go_enter Tryz.func143,Tryz.ntmps143
 go_wp2;go_ret;exact⟨by rw[HP.out];rfl,rfl⟩
theorem v0a(p:Nat)(w:World):() 155 #[p] w fun e w'=>e=.returned #[pGen p]/\w=w':=by
 have e1:IntKind.u16.wrap ((p:Int)/4294967296)=(pGen p:Int):=by unfold pGen;rw[IntKind.wrap_u16];omega
 generalize pGen p=r at*;go_enter Tryz.func155,Tryz.ntmps155
 go_wp2;go_ret;exact⟨rfl,rfl⟩
theorem y1b(p:Nat)(w:World):() 104 #[p] w fun e w'=>e=.returned [[z2h p]]/\w=w':=by
 have e1:IntKind.u8.wrap ((p:Int)/281474976710656)=(z2h p:Int):=by unfold z2h;rw[IntKind.wrap_u8];omega
 generalize z2h p=r at*;go_enter Tryz.func104,Tryz.ntmps104
 go_wp2;go_ret;exact⟨rfl,rfl⟩
theorem z9m(p:Nat)(w:World):() 72 #[p] w fun e w'=>e=.returned (decide (p=0))/\w=w':=by
 have e1:((p:Int)==0)=decide (p=0):=by
  by_cases h:p=0
  ·subst h;rfl
  ·rw[decide_eq_false h,beq_eq_false_iff_ne];omega
 generalize decide (p=0)=b at*;go_enter Tryz.func72,Tryz.ntmps72
 go_wp2;go_ret;exact⟨rfl,rfl⟩
theorem y0d(p k:Nat)(hk:k<=1000000000)(w:World):() 65 #[p,[k]] w fun e w'=>e=.returned (pAt p k)/\w=w':=by
 have HN:=hid (z9m p w);have HO:=hid (z4o p w);have Ga:(0:Int)<=(k:Int):=oM;by_cases h0:p=0
 ·have hr:(pAt p k:Int)=0:=by unfold pAt;rw[if_pos (.inl h0)];rfl
  rw[hr];rw[decide_eq_true h0]at HN;clear hr h0;go_enter Tryz.func65,Tryz.ntmps65
  go_wp2_with (go_at_call 72;refine HN.out.mono ?_;rintro e w1⟨rfl,rfl⟩)
  go_ret;exact⟨rfl,rfl⟩
 ·rw[decide_eq_false h0]at HN
  by_cases h1:60<=k
  ·have hr:(pAt p k:Int)=0:=by unfold pAt;rw[if_pos (.inr h1)];rfl
   have d1:decide (60<=(k:Int))=true:=dT;rw[hr];clear hr h0;go_enter Tryz.func65,Tryz.ntmps65
   go_wp2_with (go_at_call 72;refine HN.out.mono ?_;rintro e w1⟨rfl,rfl⟩)
   go_ret;exact⟨rfl,rfl⟩
  ·have hr:(pAt p k:Int)=(pOff p:Int)+8*(k:Int):=by unfold pAt;rw[if_neg oM];omega
   have d1:decide (60<=(k:Int))=false:=dF;have u1:IntKind.u64.wrap (k:Int)=(k:Int):=by rw[IntKind.wrap_u64];omega
   have ho:pOff p<=34359738368:=by unfold pOff;omega
   have HR:=hid hr;clear hr h0;generalize pOff p=r at*;generalize pAt p k=z at*;go_enter Tryz.func65,Tryz.ntmps65
   go_wp2_with (first
    |(go_at_call 72;refine HN.out.mono ?_;rintro e w1⟨rfl,rfl⟩)
    |(go_at_call 143;refine HO.out.mono ?_;rintro e w1⟨rfl,rfl⟩))
   go_ret;exact⟨by rw[HR.out];rfl,rfl⟩
theorem v0i(o g k:Nat)(ho:o<4294967296)(hg:g<65536)(hk:k<256):bits .or .u64 (bits .or .u64 (o:Int) ((g:Int)*4294967296)) ((k:Int)*281474976710656)=((o+g*4294967296+k*281474976710656:Nat):Int):=by
 rw[Go.u64_or32 (y:=(o:Int)) (x:=(g:Int)*4294967296) oM oM oM oM oM];rw[Go.u64_or48 (y:=(o:Int)+(g:Int)*4294967296) (x:=(k:Int)*281474976710656) oM oM oM oM oM];omega
theorem x3d(off gen kind:Nat)(h8:off%8=0)(h0:0<off)(ho:off<=1000000000)(hg0:0<gen)(hg:gen<65536)(hk0:0<kind)(hk:kind<128)(w:World):
  () 243 #[off,#[gen],[[kind]]] w fun e w'=>e=.returned (.tuple #[(pMk off gen kind),()])/\w=w':=by
 have e1:((off:Int)==0)=false:=by rw[beq_eq_false_iff_ne];omega
 have e2:(off:Int)%8=0:=oM;have e3:((gen:Int)==0)=false:=by rw[beq_eq_false_iff_ne];omega
 have e4:((kind:Int)==0)=false:=by rw[beq_eq_false_iff_ne];omega
 have e5:decide (127<(kind:Int))=false:=dF;have e6:decide (34359738360<(off:Int))=false:=dF;obtain⟨o8,Ga⟩:∃o8,off/8=o8:=⟨_,rfl⟩
 have e7:(off:Int)/8=(o8:Int):=oM;have e8:IntKind.u64.wrap (gen:Int)=(gen:Int):=by rw[IntKind.wrap_u64];omega
 have e9:IntKind.u64.wrap (kind:Int)=(kind:Int):=by rw[IntKind.wrap_u64];omega
 have ea:bits .or .u64 (bits .or .u64 (o8:Int) ((gen:Int)*4294967296)) ((kind:Int)*281474976710656)=(pMk off gen kind:Int):=by
  rw[v0i _ _ _ oM hg oM];unfold pMk;rw[Ga]
 generalize pMk off gen kind=r at*;go_enter Tryz.func243,Tryz.ntmps243
 go_wp2;go_ret2;exact⟨rfl,rfl⟩
end
end
section
open Go.RowKit
def v2l(l:Nat)(w:World)(e:Ending)(w':World):Prop:=∃M:Nat,e=.returned M/\1<=M/\M<=2*l/\w'=w
theorem x2y l (h0:0<l) (h:l<=1000000) w :
  () 323 #[[l]] w (v2l l w):=by
 have Ga:=hid (x2v l w h);have e1:IntKind.u64.wrap (l:Int)=(l:Int):=by rw[IntKind.wrap_u64];omega
 obtain⟨hb,hk⟩:=x6r l h0 h;have h1:1<=2^Lib.bitLen l:=Nat.two_pow_pos _;generalize Lib.bitLen l=k at*;obtain⟨M,hM⟩:∃M:Nat,M=2^k:=⟨_,rfl⟩
 have hp:IntKind.u64.wrap ((2:Int)^k)=(M:Int):=by
  rw[IntKind.wrap_u64,show((2:Int)^k)=((2^k:Nat):Int) by push_cast;rfl,<- hM];omega
 rw[<- hM]at hb h1;clear hM;go_enter Tryz.func323,Tryz.ntmps323
 go_wp2_with (first
  |(go_at_call 233;refine Ga.out.mono ?_;rintro e w'⟨rfl,rfl⟩))
 go_ret;exact⟨M,rfl,h1,hb,rfl⟩
structure RanI(w wr:World)(g:Nat)(xs:List Nat)(sz s:Nat):Prop where
 row:z0t w wr g xs sz
 new:w.heap.size<=s
 ne:s≠g
 ran:∃z:Nat,z<18446744073709551616/\Blk wr s 426 #[z]
theorem RanI.next{w wr g sz s xs}(h:RanI w wr g xs sz s)(v:Nat)(hv:v<18446744073709551616):RanI w ((wr.setCell (s,()) v).drewN 3) g xs sz s:=by
 obtain⟨z,_,hB⟩:=h.ran;exact⟨(h.row.other h.new h.ne _).drewN 3,h.new,h.ne,v,hv,(hB.set_ 0 _).drewN 3⟩
theorem RanI.swap{w wr:World}{g sz s:Nat}{xs:List Nat}(h:RanI w wr g xs sz s){i j x y:Nat}(hi:i<xs.length)(hj:j<xs.length)(hx:wr.cell? (g,i)=some ↑x)(hy:wr.cell? (g,j)=some ↑y):
  RanI w (((wr.setCell (g,i) y).setCell (g,j) x)).drew g xs sz s:=by
 obtain⟨z,hz,hB⟩:=h.ran;exact⟨(h.row.swap hi hj hx hy).drew,h.new,h.ne,z,hz,((hB.far h.ne _).far h.ne _).drew⟩
theorem RanI.start{w g sz xs}(h:z0t w w g xs sz)(l:Nat)(hl:l<18446744073709551616):RanI w (w.alloc (.cells #[l] 426)) g xs sz w.heap.size:=by
 have hg:g<w.heap.size:=by obtain⟨cs,ys,h1,_⟩:=h;exact h1.lt
 refine⟨?_,nL _,oM,l,hl,Blk.new _ _ _⟩;obtain⟨cs,ys,h1,h2,h3,h4,h5⟩:=h;exact⟨cs,ys,h1.alloc _,h2,h3,h4,h5.below ((Below.refl _ w).alloc (nL _) _)⟩
theorem x6t(g n cap sz a l:Nat)(xs:List Nat)(w:World)(h:z0t w w g xs sz)(hl:xs.length=n)(hb:a+l<=n)(h8:8<=l)(hn:n<=1000000)(hc:n<=cap)(hcm:cap<=9223372036854775807):
  () 285 #[.slice (some (g,())) n cap,[a],[a+l]] w (z3f w g xs sz):=by
 have HR:=hid (RanI.start h l oM);have HL:=hid hl;have HP:=hid (x2y l oM oM);have e1:IntKind.u64.wrap (l:Int)=(l:Int):=by rw[IntKind.wrap_u64];omega
 clear h hl;go_enter Tryz.func285,Tryz.ntmps285
 go_wp2_with fail
 rw[show((a:Int)+(l:Int)-(a:Int))=(l:Int) by omega];refine(HP.out _).mono ?_;rintro e w1⟨M,rfl,Gc,Gd,rfl⟩;clear HP;generalize w.alloc (.cells #[l] 426)=W at*;go_wp2_with fail
 go_loopw [9] (fun vi wr=>∃P:Nat,vi=↑[P]/\a+l/4*2<=P+1/\P<=a+l/4*2+2/\Hid (RanI w wr g xs sz w.heap.size)) (fun vi _=>a+l/4*2+3-(RowKit.intOf vi).toNat)
 case atStart=>exact⟨a+l/4*2-1,by congr 1;omega,oM,oM,HR⟩
 case round =>
  clear HR;obtain⟨P,rfl,Ge,Gf,HR⟩:=hrel;by_cases hP:P<=a+l/4*2+1
  ·have e2:decide ((P:Int)<=(a:Int)+(l:Int)/4*2+1)=true:=dT
   obtain⟨z,hz,hB⟩:=HR.out.ran;have HN:=hid (w6f w.heap.size z hz wr (hB.cell 0) (hB.frozen 0));have e3:(P:Int)<(n:Int):=oM;clear hB hz;go_wp2_with fail
   refine HN.out.mono ?_;rintro e w2⟨R,hR,rfl,rfl⟩;obtain⟨O,hO⟩:∃O:Nat,O=R&&& (M-1):=⟨_,rfl⟩
   have lO:O<=M-1:=by rw[hO];exact Nat.and_le_right
   have Gb:bits .and .u64 (R:Int) ((M:Int)-1)=(O:Int):=by
    rw[show((M:Int)-1)=((M-1:Nat):Int) by omega,bits_and_u64_nat _ _ hR (oM),hO]
   have Ga:=hid (HR.out.next R hR);clear hO HN HR;generalize (wr.setCell (w,()) R).drewN 3=wr at*;by_cases hLO:l<=O
   ·have e4:decide ((l:Int)<=(O:Int))=true:=dT
    obtain⟨K,hK⟩:∃K:Nat,K=a+(O-l):=⟨_,rfl⟩
    have k1:(0:Int)<=(a:Int)+((O:Int)-(l:Int)):=oM;have k2:(a:Int)+((O:Int)-(l:Int))<(n:Int):=oM;have k3:((a:Int)+((O:Int)-(l:Int))).toNat=K:=oM;clear hK;go_wp2_with fail
    obtain⟨x1,c1,z1⟩:=Ga.out.row.at_ (i:=P) (by have:=HL.out;omega);obtain⟨x2,c2,z2⟩:=Ga.out.row.at_ (i:=K) (by have:=HL.out;omega);obtain⟨x3,c3⟩:=Ga.out.row.mid (i:=P) (j:=K) (by have:=HL.out;omega) x2;have H1:=hid (Ga.out.swap (by have:=HL.out;omega) (by have:=HL.out;omega) c1 c2);clear Ga;by_cases hEq:P=K
    ·subst hEq
     obtain rfl:x1=x2:=by
      rw[c1]at c2;simp at c2;omega
     go_region;clear c1 c2 c3 z1 z2;go_wp2_with fail
     go_roundw
     case rel=>exact⟨P+1,by go_num,oM,oM,H1⟩
     case measure=>simp[RowKit.intOf];omega
    ·go_region
     clear c1 c2 c3 z1 z2;go_wp2_with fail
     go_roundw
     case rel=>exact⟨P+1,by go_num,oM,oM,H1⟩
     case measure=>simp[RowKit.intOf];omega
   ·have e4:decide ((l:Int)<=(O:Int))=false:=dF
    obtain⟨K,hK⟩:∃K:Nat,K=a+O:=⟨_,rfl⟩
    have k1:(0:Int)<=(a:Int)+(O:Int):=oM;have k2:(a:Int)+(O:Int)<(n:Int):=oM;have k3:((a:Int)+(O:Int)).toNat=K:=oM;clear hK;go_wp2_with fail
    obtain⟨x1,c1,z1⟩:=Ga.out.row.at_ (i:=P) (by have:=HL.out;omega);obtain⟨x2,c2,z2⟩:=Ga.out.row.at_ (i:=K) (by have:=HL.out;omega);obtain⟨x3,c3⟩:=Ga.out.row.mid (i:=P) (j:=K) (by have:=HL.out;omega) x2;have H1:=hid (Ga.out.swap (by have:=HL.out;omega) (by have:=HL.out;omega) c1 c2);clear Ga;by_cases hEq:P=K
    ·subst hEq
     obtain rfl:x1=x2:=by
      rw[c1]at c2;simp at c2;omega
     go_region;clear c1 c2 c3 z1 z2;go_wp2_with fail
     go_roundw
     case rel=>exact⟨P+1,by go_num,oM,oM,H1⟩
     case measure=>simp[RowKit.intOf];omega
    ·go_region
     clear c1 c2 c3 z1 z2;go_wp2_with fail
     go_roundw
     case rel=>exact⟨P+1,by go_num,oM,oM,H1⟩
     case measure=>simp[RowKit.intOf];omega
  ·have e2:decide ((P:Int)<=(a:Int)+(l:Int)/4*2+1)=false:=dF
   go_wp2_with fail
   go_end0;exact⟨rfl,HR.out.row⟩
end
section
open Go.ChangeShapes Go.WideShapes Go.ChangeAt Go.RowKit
theorem ownK:ownKnob Tryz.prog.godebug=none:=by kernel_rfl
theorem x2u:laidOutB Tryz.prog=true:=by kernel_rfl
theorem gTab : Tryz.prog.globalNamed "bedrock/crc.nibbles" =some 2 := by kernel_rfl
theorem w5n:(Tryz.prog.globals[2]?).map (·.type)=some 431:=by kernel_rfl
theorem w4u:Tryz.prog.cellsOf 431=16:=by kernel_rfl
theorem w4v:Tryz.prog.cellsOf 331=1:=by kernel_rfl
def x5a : List (String×DataW Unit) := [("bedrock/crc.nibbles",Rows.laid_bedrock_crc_nibbles),("bedrock/sizeclass.payload",Rows.laid_bedrock_sizeclass_payload)]
theorem v4n{W:World}(h:laidMetH Tryz.prog x5a W):Tab W:=by
 have ht : Lib.TabIs Tryz.prog W "bedrock/crc.nibbles" .u32 (Crc.nib.map fun (n : Nat) => (n : Int)) :=
  Lib.tabIs_of_head (rest := [("bedrock/sizeclass.payload",Rows.laid_bedrock_sizeclass_payload)]) gTab w5n Tryz.underlying431 Tryz.underlying331 w4v w4u h
 intro i hi;have:=ht.cell gTab i (by simpa[Crc.nib] using hi);rw[this];have hl:i<Crc.nib.length:=by simpa[Crc.nib] using hi
 simp[List.getD,hl]
def v3i:Obj->Obj
 | .cells _ t frozen => .cells (Crc.nib.map fun (n:Nat)=>Value.int .u32 n).toArray t frozen
 |o=>o
def v3p:Obj->Obj
 | .cells _ t frozen => .cells #[.int .i64 3,.int .i64 7,.int .i64 15,.int .i64 31,.int .i64 60] t frozen
 |o=>o
noncomputable def y2u(os:Os):World :=
 { World.holding Tryz.prog os ⟨#[],#[],[]⟩with heap:=((World.holding Tryz.prog os ⟨#[],#[],[]⟩).heap.modify 2 v3i).modify 0 v3p }
section
variable{H:Type}{enc:TypeId×Value->H}{W:World}{b0 base:Nat}{sp:Nat->Bool}{held:Bool}{v:Value}{d:DataW H}{p:List MemPlace}{r:Reach}
theorem v4p(hv:Value.okWide Tryz.prog W r b0 5 v)(h:DataW.Trod enc Tryz.prog W base sp held 5 v d p):∃n:Nat,v=.int .u8 n/\n<256:=by
 obtain⟨n,hs,_,_,hw⟩:=open_int Tryz.underlying5 hv h;have hb:0<=n/\n<256:=by
  have hm:IntKind.u8.min=0:=by decide
  have hx:IntKind.u8.max=255:=by decide
  simp only[Lit.wf,hm,hx,Bool.and_eq_true,decide_eq_true_eq]at hw;omega
 exact⟨n.toNat,by rw[Int.toNat_of_nonneg hb.1];exact hs,oM⟩
end
end
section
open Go.RowKit
def x0d(x:Nat):List Nat:=[x%256,x/256%256,x/65536%256,x/16777216%256]
def z5b(x:Nat):Nat:=Crc.sum (x0d x)*4294967296+x
theorem y1g x:∀b∈x0d x,b<256:=by
 intro b hb;simp only[x0d,List.mem_cons,List.not_mem_nil,or_false]at hb;omega
theorem w7g x (hx:x<4294967296):z5b x<18446744073709551616:=by
 have:=Crc.sum_lt (y1g x);unfold z5b;omega
theorem v1k(s x:Nat)(hs:s<4294967296)(hx:x<4294967296):bits .or .u64 ((s:Int)*4294967296) (x:Int)=((s*4294967296+x:Nat):Int):=by
 rw[show(s:Int)*4294967296=((s*4294967296:Nat):Int) by omega];rw[u64_or_nat _ _ oM oM];congr 1
 have:=Nat.two_pow_add_eq_or_of_lt (i:=32) (b:=x) hx s;rw[Nat.mul_comm s,show(4294967296:Nat)=2^32 from rfl,<- this]
theorem z6z(x:Nat)(hx:x<4294967296)(w:World)(ht:Tab w):
  () 314 #[.int .u32 x] w fun e w'=>e=.returned (z5b x)/\Blw w w':=by
 have HS:=hid (fun (W:World) (hW:Blw w W) (B:Nat) h=>v1n (some (w,())) 4 4 B (x0d x) W (y1g x) h oM (ht.below hW));have Ga:=Crc.sum_lt (y1g x);have HB:Hid (x0d x=[x%256,x/256%256,x/65536%256,x/16777216%256]):=rfl;have e0:IntKind.u8.wrap (x:Int)=((x%256:Nat):Int):=by rw[IntKind.wrap_u8];omega
 have e1:IntKind.u8.wrap ((x:Int)/256)=((x/256%256:Nat):Int):=by rw[IntKind.wrap_u8];omega
 have e2:IntKind.u8.wrap ((x:Int)/65536)=((x/65536%256:Nat):Int):=by rw[IntKind.wrap_u8];omega
 have e3:IntKind.u8.wrap ((x:Int)/16777216)=((x/16777216%256:Nat):Int):=by rw[IntKind.wrap_u8];omega
 have e4:bits .or .u64 ((Crc.sum (x0d x):Int)*4294967296) (x:Int)=(z5b x:Int):=v1k _ x Ga hx;generalize z5b x=z at*;generalize Crc.sum (x0d x)=s at*;generalize x0d x=l at*;generalize x%256=b0 at*;generalize x/256%256=b1 at*;generalize x/65536%256=b2 at*;generalize x/16777216%256=b3 at*;have u1:IntKind.u64.wrap (s:Int)=(s:Int):=by rw[IntKind.wrap_u64];omega
 have u2:IntKind.u64.wrap (x:Int)=(x:Int):=by rw[IntKind.wrap_u64];omega
 have u3:IntKind.u64.wrap ((s:Int)*4294967296)=(s:Int)*4294967296:=by rw[IntKind.wrap_u64];omega
 clear ht;go_enter Tryz.func314,Tryz.ntmps314
 go_wp2_with (go_at_call 341;refine(HS.out _ ((Below.refl _ _).alloc (nL _) _) (w+1) (by rw[HB.out];exact z0j w _ rfl _ 4 1 5 _ rfl rfl)).mono ?_;rintro e w1⟨rfl,rfl⟩)
 go_ret;exact⟨rfl,(Below.refl _ _).alloc (nL _) _⟩
theorem z3n p w : (nilAhead 585 57 (.pointer (some p)) "Load").run Tryz.prog w=.ok (some false) w := by kernel_rfl
theorem z2m{a L T w S cur F}(h:Dev a L T w S cur F) off v (h8:off%8=0) (hlt:off<64*L) (hv:cur (off/8)=v) W (hW:Blw w W) :
  () 39 #[(a.th 0,0),off] W fun e w'=>e=.returned v/\W=w':=by
 obtain⟨s,Gb,Gc,cs,ls,Ga,_⟩:=h.below hW;subst hv;exact x5f Ga oM off h8 hlt
theorem w1t{a L T w S cur F}(h:Dev a L T w S cur F) g s n (hB:Blk w g 316 (z1q a s n)) (hs:s<L) (h0:cur (8*s)=0) :
  () 220 #[(g,0)] w fun e w'=>e=.returned (.tuple #[.int .u8 1,((),())])/\Blw w w':=by
 have Gb:=hid (z2m h (64*s) 0 oM oM (by rw[show 64*s/8=8*s by omega];exact h0));have Gd:=z3n (a.th 0,0);have hm:=z3u (some (a.th 0,0));have Gc:=hid hB;have f0:w.cell? (g,0)=some (memV a):=hB.cell 0;have f1:w.cell? (g,1)=some ↑(64*s:Nat):=hB.cell 1;have Ga:Hid (Blw w w.drew):=(Below.refl _ _).drew;unfold memV at*;generalize 64*s=z at*;clear hB h;go_enter Tryz.func220,Tryz.ntmps220
 go_wp2_with fail
 go_cut [5]from 16 to 24 (fun v wx=>v=↑[()]/\Hid (Blw w wx))
 case first =>
  go_region_with (go_at_call 39;refine(Gb.out _ Ga.out).mono ?_;rintro e w1⟨rfl,rfl⟩)
  all_goals (go_wp2_with fail;go_meet;exact⟨rfl,Ga⟩)
 case rest =>
  obtain⟨rfl,HW⟩:=hcut;go_wp2;go_ret2;exact⟨rfl,HW.out⟩
theorem w1g:(Tryz.prog.info? 342).map (fun i=>(i.zero,i.size,i.bytes))=some (some (.agg #[(),(),(),false]),4,32):=by kernel_rfl
theorem y6r:(Tryz.prog.info? 3).map (fun i=>(i.zero,i.size,i.bytes))=some (some ↑(),1,8):=by kernel_rfl
def z2s(l:List Int):List Value:=l.map fun x=>Value.int .i64 x
def payW:Nat->Nat
 |0=>3
 |1=>7
 |2=>15
 |3=>31
 |_=>60
def perC(c:Nat):Nat:=248/(payW c+1)
def offB(c i:Nat):Nat:=8+i*(payW c+1)
def y3x(c x:Nat):Option Nat:=if x<=8\/256<=x then none else if (x-9)%(payW c+1)≠0\/perC c<=(x-9)/(payW c+1)then none else some ((x-9)/(payW c+1))
theorem z7i c:3<=payW c/\payW c<=60:=by
 unfold payW;split<;>omega
theorem z3b c:4<=perC c/\perC c<=62:=by
 unfold perC payW;split<;>omega
theorem off_lt{c i}(h:i<perC c):offB c i+payW c+1<=256:=by
 unfold perC payW at h;unfold offB payW;split at h<;>omega
theorem y6x{c i j}(hij:i<j):offB c i+payW c+1<=offB c j:=by
 unfold offB;have h:(i+1)*(payW c+1)<=j*(payW c+1):=Nat.mul_le_mul_right _ hij;rw[Nat.succ_mul]at h;omega
theorem w0r{c i}(h:i<perC c):y3x c (offB c i+1)=some i:=by
 have h1:=off_lt h;have h2:=z7i c;unfold y3x;rw[if_neg (by unfold offB at*;omega)];have e:offB c i+1-9=i*(payW c+1):=by unfold offB;omega
 rw[e,Nat.mul_mod_left,Nat.mul_div_cancel _ oM,if_neg oM]
theorem x7k{c x i}(h:y3x c x=some i):i<perC c/\x=offB c i+1:=by
 unfold y3x at h;split at h
 ·cases h
 ·split at h
  ·cases h
  ·rename_i h1 h2
   injection h with h
   have h3:=Nat.div_add_mod (x-9) (payW c+1);rw[h]at h3 h2;refine⟨oM,?_⟩;unfold offB;rw[Nat.mul_comm]at h3;omega
def Pay(w:World):Prop:=∀i,i<5->w.cell? (0,i)=some ↑[payW i]
theorem Pay.size{w}(h:Pay w):0<w.heap.size:=World.block_lt_of_cell? _ _ (h 0 oM)
theorem Pay.below{w w'}(h:Pay w)(hb:Blw w w'):Pay w':=fun i hi=>by
 rw[hb.cell (p:=⟨0,i,none⟩) h.size];exact h i hi
section
theorem y3f c (hc:c<5) w (hp:Pay w):() 159 #[[c]] w fun e w'=>e=.returned [payW c]/\w=w':=by
 have f:=hp c hc;have h1:(0:Int)<=(c:Int):=oM;have h2:(c:Int)<5:=oM;clear hp;generalize payW c=q at*;go_enter Tryz.func159,Tryz.ntmps159
 go_wp2;go_ret;exact⟨rfl,rfl⟩
theorem z2i c (hc:c<5) w (hp:Pay w):() 173 #[[c]] w fun e w'=>e=.returned [perC c]/\w=w':=by
 have HW:=hid (y3f c hc w hp);obtain⟨g3,g4⟩:=z7i c;have e1:((payW c:Int)==0)=false:=by rw[beq_eq_false_iff_ne];omega
 have e2:(248:Int)/((payW c:Int)+1)=(perC c:Int):=by
  rw[show((payW c:Int)+1)=((payW c+1:Nat):Int) by omega];exact(Int.natCast_ediv 248 (payW c+1)).symm
 have e3:(248:Int).tdiv ((payW c:Int)+1)=(perC c:Int):=by rw[Int.tdiv_eq_ediv_of_nonneg oM];exact e2
 have e4:¬((payW c:Int)+1=0):=oM;obtain⟨g1,g2⟩:=z3b c;clear hp;generalize payW c=q at*;generalize perC c=r at*;go_enter Tryz.func173,Tryz.ntmps173
 go_wp2_with (go_at_call 159;refine HW.out.mono ?_;rintro e w1⟨rfl,rfl⟩)
 go_ret;exact⟨rfl,rfl⟩
theorem y4x c i (hc:c<5) (hi:i<perC c) w (hp:Pay w):() 298 #[[c],[i]] w fun e w'=>e=.returned (.tuple #[[offB c i],()])/\w=w':=by
 have HW:=hid (z2i c hc w hp);have f:=hp c hc;obtain⟨g3,g4⟩:=z7i c;obtain⟨g1,g2⟩:=z3b c;have h3:=off_lt hi;have e1:((perC c:Int)==0)=false:=by rw[beq_eq_false_iff_ne];omega
 have e2:(i:Int)<(perC c:Int):=oM;have Gb:(0:Int)<=(i:Int):=oM;have Gc:decide ((perC c:Int)<=(i:Int))=false:=dF;have e5:(0:Int)<=(c:Int):=oM;have e6:(c:Int)<5:=oM;have e7:IntKind.i64.wrap ((i:Int)*((payW c:Int)+1))=((i*(payW c+1):Nat):Int):=by
  rw[show(i:Int)*((payW c:Int)+1)=((i*(payW c+1):Nat):Int) by push_cast;rfl];exact IntWalk.i64_in _ (by unfold offB at h3;omega)
 have Gd:wrap64 ((i:Int)*((payW c:Int)+1))=((i*(payW c+1):Nat):Int):=by
  rw[show(i:Int)*((payW c:Int)+1)=((i*(payW c+1):Nat):Int) by push_cast;rfl];unfold wrap64;unfold offB at h3;omega
 have Ga:Hid ((offB c i:Int)=8+((i*(payW c+1):Nat):Int)):=hid (by unfold offB;omega);have h4:i*(payW c+1)<=256:=by unfold offB at h3;omega
 clear hp h3;generalize i*(payW c+1)=z at*;generalize offB c i=ob at*;generalize payW c=q at*;generalize perC c=r at*;go_enter Tryz.func298,Tryz.ntmps298
 go_wp2_with (go_at_call 173;refine HW.out.mono ?_;rintro e w1⟨rfl,rfl⟩)
 go_ret2;exact⟨by rw[Ga.out];rfl,rfl⟩
def y0n(c x:Nat):Value:=match y3x c x with
 |some i => .tuple #[[i],true]
 |none => .tuple #[(),false]
theorem y5f c x (hc:c<5) (hx:x<=1000000000) w (hp:Pay w):() 247 #[[c],[x]] w fun e w'=>e=.returned (y0n c x)/\w=w':=by
 have HW:=hid (z2i c hc w hp);have f:=hp c hc;obtain⟨g3,g4⟩:=z7i c;obtain⟨g1,g2⟩:=z3b c;have e1:((perC c:Int)==0)=false:=by rw[beq_eq_false_iff_ne];omega
 have e5:(0:Int)<=(c:Int):=oM;have e6:(c:Int)<5:=oM;by_cases h1:x<=8\/256<=x
 ·have hr:y0n c x=.tuple #[(),false]:=by unfold y0n y3x;rw[if_pos h1]
  rw[hr];clear hr hp;generalize payW c=q at*;generalize perC c=r at*;rcases h1 with h1|h1
  ·have d1:decide ((x:Int)<=8)=true:=dT
   go_enter Tryz.func247,Tryz.ntmps247
   go_wp2_with (go_at_call 173;refine HW.out.mono ?_;rintro e w1⟨rfl,rfl⟩)
   go_ret2;exact⟨rfl,rfl⟩
  ·have d1:decide ((x:Int)<=8)=false:=dF
   have d2:decide (256<=(x:Int))=true:=dT;go_enter Tryz.func247,Tryz.ntmps247
   go_wp2_with (go_at_call 173;refine HW.out.mono ?_;rintro e w1⟨rfl,rfl⟩)
   go_ret2;exact⟨rfl,rfl⟩
 ·have d1:decide ((x:Int)<=8)=false:=dF
  have d2:decide (256<=(x:Int))=false:=dF;have k1:(8:Int)<(x:Int):=oM;have k2:(x:Int)<256:=oM;obtain⟨y,hy⟩:∃y,x-9=y:=⟨_,rfl⟩
  have Ga:(x:Int)-8-1=(y:Int):=oM;have m1:((y:Int)%((payW c:Int)+1))=((y%(payW c+1):Nat):Int):=by
   rw[show((payW c:Int)+1)=((payW c+1:Nat):Int) by omega];exact(Int.natCast_emod y (payW c+1)).symm
  have m2:((y:Int)/((payW c:Int)+1))=((y/(payW c+1):Nat):Int):=by
   rw[show((payW c:Int)+1)=((payW c+1:Nat):Int) by omega];exact(Int.natCast_ediv y (payW c+1)).symm
  have m3:((y:Int).tmod ((payW c:Int)+1))=((y%(payW c+1):Nat):Int):=by rw[Int.tmod_eq_emod_of_nonneg oM];exact m1
  have m4:((y:Int).tdiv ((payW c:Int)+1))=((y/(payW c+1):Nat):Int):=by rw[Int.tdiv_eq_ediv_of_nonneg oM];exact m2
  have n1:y%(payW c+1)<=256:=by have:=Nat.mod_le y (payW c+1);omega
  have n2:y/(payW c+1)<=256:=by have:=Nat.div_le_self y (payW c+1);omega
  have HR:Hid (y0n c x=if y%(payW c+1)≠0\/perC c<=y/(payW c+1)then .tuple #[(),false]else .tuple #[[y/(payW c+1)],true]):=hid (by
   unfold y0n y3x;rw[if_neg h1,hy];by_cases hz:y%(payW c+1)≠0\/perC c<=y/(payW c+1)
   ·rw[if_pos hz,if_pos hz]
   ·rw[if_neg hz,if_neg hz])
  clear hp h1 hy;generalize y0n c x=rr at*;generalize y%(payW c+1)=ym at*;generalize y/(payW c+1)=yd at*;generalize payW c=q at*;generalize perC c=r at*;have yp:(0:Int)<=(y:Int):=oM;have q1:¬((q:Int)+1=0):=oM;by_cases h2:ym=0
  ·by_cases h3:yd<r
   ·have r1:((ym:Int)==0)=true:=by rw[beq_iff_eq];omega
    have r2:decide ((r:Int)<=(yd:Int))=false:=dF;have r3:decide (r<=yd)=false:=dF;subst h2;rw[HR.out,if_neg oM];clear HR;go_enter Tryz.func247,Tryz.ntmps247
    go_wp2_with (go_at_call 173;refine HW.out.mono ?_;rintro e w1⟨rfl,rfl⟩)
    go_ret2;exact⟨rfl,rfl⟩
   ·have r2:decide ((r:Int)<=(yd:Int))=true:=dT
    have r3:decide (r<=yd)=true:=dT;subst h2;rw[HR.out,if_pos oM];clear HR;go_enter Tryz.func247,Tryz.ntmps247
    go_wp2_with (go_at_call 173;refine HW.out.mono ?_;rintro e w1⟨rfl,rfl⟩)
    go_ret2;exact⟨rfl,rfl⟩
  ·have r1:((ym:Int)==0)=false:=by rw[beq_eq_false_iff_ne];omega
   rw[HR.out,if_pos oM];clear HR;go_enter Tryz.func247,Tryz.ntmps247
   go_wp2_with (go_at_call 173;refine HW.out.mono ?_;rintro e w1⟨rfl,rfl⟩)
   go_ret2;exact⟨rfl,rfl⟩
def z3h(n:Nat):Nat:=if n<=3 then 0 else if n<=7 then 1 else if n<=15 then 2 else if n<=31 then 3 else 4
theorem w0i n (h0:0<n) (h60:n<=60) w (hp:Pay w):() 158 #[[n]] w fun e w'=>e=.returned (.tuple #[[z3h n],()])/\w=w':=by
 have HP:=hid hp;have h1:(1:Int)<=(n:Int):=oM;have HC:Hid (z3h n<5/\∀i,i<5->(n<=payW i↔z3h n<=i)):=hid (by
  have Ge:(n<=3/\z3h n=0)\/(3<n/\n<=7/\z3h n=1)\/(7<n/\n<=15/\z3h n=2)\/(15<n/\n<=31/\z3h n=3)\/(31<n/\z3h n=4):=by
   unfold z3h;by_cases a1:n<=3
   ·rw[if_pos a1];omega
   ·rw[if_neg a1]
    by_cases a2:n<=7
    ·rw[if_pos a2];omega
    ·rw[if_neg a2]
     by_cases a3:n<=15
     ·rw[if_pos a3];omega
     ·rw[if_neg a3]
      by_cases a4:n<=31
      ·rw[if_pos a4];omega
      ·rw[if_neg a4];omega
  refine⟨oM,fun i hi=>?_⟩;have Gc:i=0\/i=1\/i=2\/i=3\/i=4:=oM;rcases Gc with rfl|rfl|rfl|rfl|rfl<;>simp only[payW]<;>omega)
 clear hp;generalize z3h n=cn at*;go_enter Tryz.func158,Tryz.ntmps158
 go_wp2;go_loopw [7] (fun i wr=>∃k:Nat,k<=5/\k<=cn/\i=↑[k]/\Hid (w=wr)) (fun i _=>5-(Go.RowKit.intOf i).toNat)
 case atStart=>exact⟨0,oM,Nat.zero_le _,rfl,hid rfl⟩
 case round =>
  obtain⟨k,hk,Gf,rfl,hw⟩:=hrel;have hw:=hw.out;subst hw;have Gb:k<5:=by have:=HC.out.1;omega
  have f:=HP.out k Gb;have Gh:(0:Int)<=(k:Int):=oM;have Gi:(k:Int)<5:=oM;have Ga:=HC.out.2 k Gb;generalize payW k=q at*;by_cases hle:n<=q
  ·have d:decide ((n:Int)<=(q:Int))=true:=dT
   have Gd:k=cn:=by have:=Ga.1 hle;omega
   subst Gd;clear Ga;go_wp2;go_ret2;exact⟨rfl,rfl⟩
  ·have d:decide ((n:Int)<=(q:Int))=false:=dF
   have Gg:k<cn:=by
    have:¬cn<=k:=fun h=>hle (Ga.2 h)
    omega
   clear Ga;go_wp2;go_roundw
   case rel =>
    first
     |exact⟨k+1,oM,oM,by go_num,hid trivial⟩
     |exact⟨k+1,oM,oM,by go_num,hid rfl⟩
   case measure=>simp[Go.RowKit.intOf];omega
end
end
section
open Go.RowKit Go.Maps
def SetD(D:DataW Unit)(l:List Nat):Prop:=∀x,D.atKey (kU x) (.lit (.bool false))=.lit (.bool (decide (x∈l)))
theorem SetD.nil:SetD (.map []) []:=fun x=>by simp[DataW.atKey]
theorem z7f{x y}(h:x≠y):kU x≠kU y:=fun e=>h (v3e e)
theorem z4z x:WideAt.IsKeyLit (kU x):=by simp[WideAt.IsKeyLit]
theorem SetD.put{D l}(h:SetD D l)(hm:IsMap D) o:SetD (D.put (kU o) (.lit (.bool true))) (o::l):=fun x=>by
 by_cases hx:x=o
 ·subst hx;rw[atKey_put_same hm (z4z x)];simp
 ·rw[atKey_put_other (z7f hx),h x];simp[hx]
def OSet(w:World)(b n:Nat)(l:List Nat):Prop:=∃D:DataW Unit,w.ownsMap Tryz.prog 32 (plainElem Tryz.prog 4) b n D/\SetD D l
theorem keyU{x:Nat}(h:x<18446744073709551616):keyOf Tryz.prog 32 x=some (kU x):=keyOf_int_mk Tryz.underlying32 (z9x h)
theorem z1g:Keyed Tryz.prog 32:=int_keyed Tryz.underlying32
theorem z4l{P:Program}{e:TypeId}(he:P.underlying e=some .bool){v:Value}{z:DataW Unit×List MemPlace}(h:plainElem P e v=some z):∃b,v=.bool b/\z=(.lit (.bool b),[]):=by
 cases v<;>simp[plainElem,he]at h
 rename_i b
 exact⟨b,rfl,h.symm⟩
theorem OSet.look{w:World}{b n:Nat}{l:List Nat}(h:OSet w b n l){x:Nat}(hx:x<18446744073709551616):(Instr.lookup 419 (.map (some b)) (.int .u64 x) false).run Tryz.prog w=.ok (.bool (decide (x∈l))) w:=by
 obtain⟨D,ho,hd⟩:=h;obtain⟨v,ps,Ga,hv⟩:=ho.lookup z1g Tryz.underlying419 (z := .bool false) (by kernel_rfl) (plainElem_bool Tryz.underlying4 false) (keyU hx);obtain⟨c,rfl,hc⟩:=z4l Tryz.underlying4 hv;rw[hd x]at hc;simp at hc;rw[Ga,hc.1]
theorem OSet.add{w:World}{b n:Nat}{l:List Nat}(h:OSet w b n l)(hn:n<maxLen){x:Nat}(hx:x<18446744073709551616):∃w',(Instr.mapUpdate 419 (.map (some b)) (.int .u64 x) (.bool true)).run Tryz.prog w=.ok () w'/\OSet w' b (n+1) (x::l)/\w.grownBy w' (some b):=by
 obtain⟨D,ho,hd⟩:=h;obtain⟨w',Ga,Gb,hg⟩:=ho.update z1g Tryz.underlying419 hn (keyU hx) (plainElem_bool Tryz.underlying4 true);exact⟨w',Ga,⟨_,Gb,hd.put ho.isMap x⟩,hg⟩
theorem OSet.congr{w:World}{b n:Nat}{l l':List Nat}(h:OSet w b n l)(hl:∀x,x∈l↔x∈l'):OSet w b n l':=by
 obtain⟨D,ho,hd⟩:=h;exact⟨D,ho,fun x=>by rw[hd x];simp[hl x]⟩
theorem OSet.mono{w b n n' l}(h:OSet w b n l)(hn:n<=n'):OSet w b n' l:=by
 obtain⟨D,ho,hd⟩:=h;exact⟨D,ho.mono hn,hd⟩
theorem OSet.new(w:World):OSet (w.alloc (.map #[] 0)) w 0 []:=⟨_,World.ownsMap_made w _ _ _,SetD.nil⟩
theorem OSet.alloc{w b n l}(h:OSet w b n l) o:OSet (w.alloc o) b n l:=by
 obtain⟨D,ho,hd⟩:=h;exact⟨D,ho.alloc o,hd⟩
theorem OSet.kept{w w' b n l row}(h:OSet w b n l)(hg:w.grownBy w' row)(hne:some b≠row):OSet w' b n l:=by
 obtain⟨D,ho,hd⟩:=h;exact⟨D,ho.kept hg hne,hd⟩
theorem OSet.ne_own{w b n l}(h:OSet w b n l){base}{e:TypeId}{size m v xs}(ho:w.ownsRow base e size v m xs):some b≠v.ownBlock:=by
 obtain⟨D,hm,hd⟩:=h;exact z2j hm ho
def z5w(st:List Nat×List Nat)(o:Nat):List Nat×List Nat:=if o∈st.1 then st else (o::st.1,st.2++[o])
def fr(seen offs:List Nat):List Nat×List Nat:=offs.foldl z5w (seen,[])
theorem w9z seen offs o:fr seen (offs++[o])=z5w (fr seen offs) o:=by simp[fr]
theorem x7p(st:List Nat×List Nat) o:(z5w st o).2.length<=st.2.length+1:=by
 unfold z5w;split
 ·exact Nat.le_succ _
 ·simp
theorem w8d:∀(offs:List Nat)(st:List Nat×List Nat),(offs.foldl z5w st).2.length<=st.2.length+offs.length
 |[],st=>by simp
 |o::offs,st=>by
  have h:=w8d offs (z5w st o);have h2:=x7p st o;simp only[List.foldl_cons,List.length_cons];omega
theorem x7q(st:List Nat×List Nat) o x (h:x∈(z5w st o).2):x∈st.2\/x=o:=by
 unfold z5w at h;split at h
 ·exact .inl h
 ·simpa using h
theorem w0y:∀(offs:List Nat)(st:List Nat×List Nat)(x:Nat),x∈(offs.foldl z5w st).2->x∈st.2\/x∈offs
 |[],st,x,h => .inl h
 |o::offs,st,x,h=>by
  rcases w0y offs (z5w st o) x h with h|h
  ·rcases x7q st o x h with h|h
   ·exact .inl h
   ·exact .inr (by simp[h])
  ·exact .inr (by simp[h])
end
section
open Go.RowKit
def wb(x j:Nat):List Nat:=(List.range j).map fun i=>x/256^i%256
def wsB(xs:List Nat):List Nat:=xs.flatMap fun x=>wb x 8
def sumW(xs:List Nat):Nat:=Crc.sum (wsB xs)
end
section
open Go.RowKit Go.Maps Go.Shelf
theorem v1a{w:World}{base:Nat}{e:TypeId}{size n c:Nat}{A:Option Addr}{xs:List Value}(h:w.ownsRow base e size (.slice A n c) n xs){m:Nat}(hm:m<=n):w.ownsRow base e size (.slice A m c) m (xs.take (m*size)):=by
 refine⟨by rw[List.length_take,h.1];exact Nat.min_eq_left (Nat.mul_le_mul_right _ hm),?_⟩;rcases h.2 with ⟨hv,h0⟩|⟨g,cap,cur,hv,hb,hh,h1,h2,h3,h4⟩
 ·injection hv with e1 e2 e3
  subst e1 e3;have:m=0:=oM;subst this;exact .inl ⟨rfl,rfl⟩
 ·injection hv with e1 e2 e3
  subst e1 e3;refine .inr ⟨g,c,cur,rfl,hb,hh,oM,h2,h3,?_⟩;rw[<- h4,List.take_take,Nat.min_eq_left (Nat.mul_le_mul_right _ hm)]
end
section
open Go.RowKit
def z2l(cur:Nat->Nat)(p:Nat)(l:List Nat):Prop:=∀j,j<l.length->cur (pOff p/8+j)=l.getD j 0
end
section
open Go.ChangeShapes Go.WideShapes Go.ChangeAt Go.RowKit
theorem y3a{α:Type}(cells:α->List Value)(size:Nat)(hs:0<size)(hlen:∀x,(cells x).length=size)(w:World)(a:Addr)(ok:α->Prop):
  ∀n,(∀i,i<n->∃x,ok x/\∀j,j<size->w.cell? (a.add (i*size+j))=(cells x)[j]?) ->
   ∃l:List α,l.length=n/\(∀x∈l,ok x)/\(l.flatMap cells).length=n*size/\∀j u,(l.flatMap cells)[j]?=some u->w.cell? (a.add j)=some u
 |0,_=>⟨[],rfl,(fun _ h=>by cases h),by simp,(fun j u h=>by simp at h)⟩
 |n+1,h=>by
  obtain⟨l,h1,h2,h3,h4⟩:=y3a cells size hs hlen w a ok n (fun i hi=>h i oM);obtain⟨x,hx,hc⟩:=h n oM;refine⟨l++[x],by simp[h1],fun y hy=>?_,?_,fun j u hu=>?_⟩
  ·rcases List.mem_append.1 hy with hy|hy
   ·exact h2 y hy
   ·rw[List.mem_singleton]at hy;subst hy;exact hx
  ·simp only[List.flatMap_append,List.length_append,h3,List.flatMap_cons,List.flatMap_nil,List.append_nil,hlen]
   rw[Nat.succ_mul]
  ·simp only[List.flatMap_append,List.flatMap_cons,List.flatMap_nil,List.append_nil]at hu
   rcases Nat.lt_or_ge j (n*size)with hj|hj
   ·rw[List.getElem?_append_left oM]at hu
    exact h4 j u hu
   ·rw[List.getElem?_append_right oM,h3]at hu
    have Ga:j-n*size<size:=by
     have:=(List.getElem?_eq_some_iff.1 hu).1;rw[hlen]at this;exact this
    have:=hc (j-n*size) Ga;rw[show n*size+(j-n*size)=j by omega]at this;rw[this];exact hu
theorem w8g{cs:List Value}{j:Nat}{v:Value}(h:(cs.drop j).take 1=[v]):cs[j]?=some v:=by
 have h0:((cs.drop j).take 1)[0]?=some v:=by rw[h];rfl
 rw[List.getElem?_take]at h0;simpa[List.getElem?_drop] using h0
theorem x8c{cs:List Value}{v0 v1:Value}(hl:cs.length=2)(d0:cs[0]?=some v0)(d1:cs[1]?=some v1):cs=[v0,v1]:=by
 match cs,hl with
 |[a0,a1],_ =>
  simp at d0 d1;subst d0 d1;rfl
theorem v4q{n}(hw:(Lit.int .u8 n).wf=true):∃k:Nat,n=(k:Int)/\k<256:=by
 have hb:0<=n/\n<256:=by
  have hm:IntKind.u8.min=0:=by decide
  have hx:IntKind.u8.max=255:=by decide
  simp only[Lit.wf,hm,hx,Bool.and_eq_true,decide_eq_true_eq]at hw;omega
 exact⟨n.toNat,by rw[Int.toNat_of_nonneg hb.1],oM⟩
section
variable{H:Type}{enc:TypeId×Value->H}{w:World}{base:Nat}{sp:Nat->Bool}{held:Bool}{fuel:Nat}{x:DataW H×List MemPlace}
theorem w9k:Tryz.prog.cellsOf 5=1:=by kernel_rfl
end
section
variable{H:Type}{enc:TypeId×Value->H}{W:World}{b0 base:Nat}{sp:Nat->Bool}{held:Bool}{v:Value}{d:DataW H}{p:List MemPlace}{r:Reach}
end
end
end Go.Proofs.YtmhbokcccjmfgaaGreatDoor
