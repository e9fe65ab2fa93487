/- part 12 -/
import Derived.Test.YtfkjjoglnmeciaaGreatDoorMag
import Derived.Test.YtfkjjoglnmeciaaGreatDoorMaj
set_option maxRecDepth 100000
set_option maxHeartbeats 16000000
namespace Go.Proofs.YtfkjjoglnmeciaaGreatDoor
open Go.Lib (hid)
section
open Go.RowKit
def lev:List Nat->Nat
 | []=>0
 | b :: l=>b+256 * lev l
theorem y4o:∀ (l:List Nat) (b:Nat),lev (l++[b])=lev l+256 ^ l.length * b
 | [],b=>by simp [lev]
 | a :: l,b=>by
  show a+256 * lev (l++[b])=a+256 * lev l+256 ^ (l.length+1) * b;rw [y4o l b,Nat.pow_succ,Nat.mul_add,Nat.add_assoc,<- Nat.mul_assoc,Nat.mul_comm 256 (256 ^ l.length)]
theorem x1m:∀ (l:List Nat),(∀ b∈l,b < 256)->lev l < 256 ^ l.length
 | [],_=>by simp [lev]
 | a :: l,h=>by
  have h1:=x1m l (fun b hb=>h b (by simp [hb]));have h2:=h a (by simp);show a+256 * lev l < 256 ^ (l.length+1);rw [Nat.pow_succ];omega
theorem x1l:∀ (l:List Nat),(∀ b∈l,b < 256)->∀ k (hk:k < l.length),lev l / 256 ^ k % 256=l[k]
 | [],_,k,hk=>by simp at hk
 | a :: l,h,0,_=>by
  have:=h a (by simp);show (a+256 * lev l) / 256 ^ 0 % 256=a;rw [Nat.pow_zero,Nat.div_one];omega
 | a :: l,h,k+1,hk=>by
  have hk':k < l.length:=by simpa using hk
  have h1:=x1l l (fun b hb=>h b (by simp [hb])) k hk';have h2:=h a (by simp);show (a+256 * lev l) / 256 ^ (k+1) % 256=l[k]'hk';rw [Nat.pow_succ,Nat.mul_comm (256 ^ k) 256,<- Nat.div_div_eq_div_mul,show (a+256 * lev l) / 256=lev l by omega];exact h1
def z2a (p:List Nat):List Nat:=(List.range ((p.length+7) / 8)).map fun j=>lev ((p.drop (8 * j)).take 8)
theorem z3x (p:List Nat):(z2a p).length=(p.length+7) / 8:=by simp [z2a]
theorem x1t {p:List Nat} (h:∀ b∈p,b < 256):∀ x∈z2a p,x < 18446744073709551616:=fun x hx=>by
 obtain ⟨j,_,rfl⟩:=List.mem_map.1 hx;have h1:=x1m ((p.drop (8 * j)).take 8) (fun b hb=>h b (List.mem_of_mem_drop (List.mem_of_mem_take hb)));have h2:((p.drop (8 * j)).take 8).length<=8:=by simp;omega
 have h3:256 ^ ((p.drop (8 * j)).take 8).length<=256 ^ 8:=Nat.pow_le_pow_right oM h2;have h4:(256:Nat) ^ 8=18446744073709551616:=by decide
 omega
theorem x4m {p:List Nat} (h:∀ b∈p,b < 256) {i:Nat} (hi:i < p.length):∃ x,(z2a p)[i / 8]?=some x/\x / 256 ^ (i % 8) % 256=p[i]:=by
 refine ⟨lev ((p.drop (8 * (i / 8))).take 8),?_,?_⟩
 ·unfold z2a
  rw [List.getElem?_map,List.getElem?_range oM];rfl
 ·have hl:i % 8 < ((p.drop (8 * (i / 8))).take 8).length:=by simp;omega
  rw [x1l _ (fun b hb=>h b (List.mem_of_mem_drop (List.mem_of_mem_take hb))) _ hl];simp only [List.getElem_take,List.getElem_drop];congr 1
  omega
def z1c (n:Nat):Nat:=if 456 < n then 60 else payW (z1e (3+(n+7) / 8))
theorem z4q (n:Nat):3<=z1c n/\z1c n<=60:=by
 unfold z1c;split
 ·omega
 ·exact z5k _
theorem w0t {n:Nat} (h:n<=60):n<=payW (z1e n):=by
 unfold z1e;split
 ·simp only [payW];omega
 ·split
  ·simp only [payW];omega
  ·split
   ·simp only [payW];omega
   ·split
    ·simp only [payW];omega
    ·simp only [payW];omega
theorem z7g (n:Nat):z1e n < 5:=by
 unfold z1e;repeat' split
 all_goals omega
theorem y3y (n:Nat):3+(min n 456+7) / 8<=z1c n:=by
 unfold z1c;split
 ·omega
 ·have:=w0t (n:=3+(n+7) / 8) oM
  omega
def payB (next:Nat) (p:List Nat):List Nat:=[next,p.length * 4294967297]++z2a (p.take 456)++List.replicate (z1c p.length - 3 - (z2a (p.take 456)).length) 0
def payL (next:Nat) (p:List Nat):List Nat:=payB next p++[sumW (payB next p)]
theorem w2h (next:Nat) (p:List Nat):(payB next p).length=z1c p.length - 1:=by
 have h:=y3y p.length;unfold payB;simp only [List.length_append,List.length_cons,List.length_nil,List.length_replicate,z3x,List.length_take];rw [Nat.min_comm] at h;omega
theorem z3n (next:Nat) (p:List Nat):(payL next p).length=z1c p.length:=by
 have h:=z4q p.length;unfold payL;rw [List.length_append,w2h];simp;omega
theorem w5z {next:Nat} {p:List Nat} (hn:next < 18446744073709551616) (hp:∀ b∈p,b < 256) (hl:p.length<=2000):∀ x∈payB next p,x < 18446744073709551616:=fun x hx=>by
 unfold payB at hx;rcases List.mem_append.1 hx with hx | hx
 ·rcases List.mem_append.1 hx with hx | hx
  ·simp at hx
   rcases hx with rfl | rfl
   ·exact hn
   ·omega
  ·exact x1t (fun b hb=>hp b (List.mem_of_mem_take hb)) x hx
 ·have:=(List.mem_replicate.1 hx).2
  omega
theorem x8h {next:Nat} {p:List Nat} (hn:next < 18446744073709551616) (hp:∀ b∈p,b < 256) (hl:p.length<=2000):∀ x∈payL next p,x < 18446744073709551616:=fun x hx=>by
 unfold payL at hx;rcases List.mem_append.1 hx with hx | hx
 ·exact w5z hn hp hl x hx
 ·have:=x0i (payB next p)
  simp at hx;omega
def hdX (c g:Nat):Nat:=g+(c+1) * 65536+1048576+3305111552
def hdrW (c g:Nat):Nat:=z4m (hdX c g)
section
theorem z7n (c g:Nat) (hc:c < 5) (w:World) (hp:Pay w):Calls Tryz.prog 381 #[.agg #[.int .i64 c,.int .i64 0,.int .u16 g]] w fun e w'=>e=.returned (.bool true)/\Blw w w':=by
 have hb:Blw w (w.alloc (.cells #[.int .i64 c,.int .i64 0,.int .u16 g] 304)):=(Below.refl _ w).alloc (nL _) _;have HB:=hid hb;have HP:=hid (z1v c hc _ (hp.below hb));have d1:(0:Int) < (perC c:Int):=by have:=z2u c;omega
 clear hp hb;generalize perC c=r at *;go_enter Tryz.func381,Tryz.ntmps381
 go_wp2_with (go_at_call 207;refine HP.out.mono ?_;rintro e w1 ⟨rfl,rfl⟩)
 go_ret;exact ⟨rfl,HB.out⟩
theorem y7a (g:Nat) (hg0:0 < g) (hg:g < 65536) (w:World) (ht:Tab w) :
  Calls Tryz.prog 350 #[.int .u64 (z4d g:Int)] w fun e w'=>e=.returned (.tuple #[.agg #[.int .i64 (-1),.int .i64 (-1),.int .u16 g],.bool true])/\Blw w w':=by
 have HS:=hid (fun (W:World) (hW:Blw w W)=>z6l (3305111552+g) oM W (ht.below hW));have hs:IntKind.u32.wrap (z4m (3305111552+g):Int)=((3305111552+g:Nat):Int):=by
  rw [IntKind.wrap_u32'];unfold z4m;omega
 unfold z4d;have Gb:Hid (∀ x,Blw w (w.alloc x)):=fun x=>(Below.refl _ _).alloc (nL _) x
 have b0:((3305111552+g:Nat):Int) / 16777216=197:=oM;have b1:((3305111552+g:Nat):Int) / 65536=50432:=oM;have b2:((3305111552+g:Nat):Int) / 1048576=3152:=oM;have b4:bits .and .u32 50432 15=0:=by decide
 have b5:bits .and .u32 3152 15=0:=by decide
 have b3:IntKind.u16.wrap ((3305111552+g:Nat):Int)=(g:Int):=by rw [IntKind.wrap_u16];omega
 have b6:((g:Int) == 0)=false:=by rw [beq_eq_false_iff_ne];omega
 have hx:3305111552+g < 4294967296:=oM;generalize 3305111552+g=xx at *;generalize z4m xx=z at *;have q1:((z:Int) == (z:Int))=true:=by simp
 clear ht;go_enter Tryz.func350,Tryz.ntmps350
 go_wp2_with (go_at_call 374;refine (HS.out _ (Gb.out _)).mono ?_;rintro e w1 ⟨rfl,Ga⟩;have Gc:=hid Ga;have hk:=(Blk.new w 304 #[.int .i64 0,.int .i64 0,.int .u16 0]).below Ga (Blk.new w 304 #[.int .i64 0,.int .i64 0,.int .u16 0]).lt;have Gd:=hk.lt;have c0:w1.cell? ⟨w.heap.size,0,none⟩=some (.int .i64 0):=hk.cell 0;have c1:w1.cell? ⟨w.heap.size,1,none⟩=some (.int .i64 0):=hk.cell 1;have c2:w1.cell? ⟨w.heap.size,2,none⟩=some (.int .u16 0):=hk.cell 2;have z0:w1.frozen? ⟨w.heap.size,0,none⟩=false:=hk.frozen 0;have z1:w1.frozen? ⟨w.heap.size,1,none⟩=false:=hk.frozen 1;have z2:w1.frozen? ⟨w.heap.size,2,none⟩=false:=hk.frozen 2;clear Ga hk)
 have Ge:(⟨w.heap.size,0,none⟩:Addr)≠⟨w.heap.size,1,none⟩:=by simp
 have Gf:(⟨w.heap.size,0,none⟩:Addr)≠⟨w.heap.size,2,none⟩:=by simp
 have Gg:(⟨w.heap.size,1,none⟩:Addr)≠⟨w.heap.size,2,none⟩:=by simp
 refine bodyPost_ret (v := .tuple #[.agg #[.int .i64 (-1),.int .i64 (-1),.int .u16 g],.bool true]) (by simp [results,Tryz.results350,go_sem,c0,c1,c2,Gd]) rfl ⟨rfl,?_⟩;have h0:=(Gb.out (.cells #[.int .i64 0,.int .i64 0,.int .u16 0] 304)).trans (Gc.out.mono (by simp));have h1:=((h0.setCell (p:=⟨w.heap.size,0,none⟩) (nL _) (.int .i64 (-1))).setCell (p:=⟨w.heap.size,1,none⟩) (nL _) (.int .i64 (-1))).setCell (p:=⟨w.heap.size,2,none⟩) (nL _) (.int .u16 g);exact h1.alloc h1.size _
theorem y2s (c g:Nat) (hc:c < 5) (hg0:0 < g) (hg:g < 65536) (w:World) (ht:Tab w) (hp:Pay w) :
  Calls Tryz.prog 350 #[.int .u64 (hdrW c g:Int)] w fun e w'=>e=.returned (.tuple #[.agg #[.int .i64 c,.int .i64 0,.int .u16 g],.bool true])/\Blw w w':=by
 have hx:hdX c g < 4294967296:=by unfold hdX;omega
 have HS:=hid (fun (W:World) (hW:Blw w W)=>z6l (hdX c g) hx W (ht.below hW));have HF:=hid (fun (W:World) (hW:Blw w W)=>z7n c g hc W (hp.below hW));have hs:IntKind.u32.wrap (z4m (hdX c g):Int)=(hdX c g:Int):=by
  rw [IntKind.wrap_u32'];unfold z4m;omega
 unfold hdrW;have Gc:Hid (∀ x,Blw w (w.alloc x)):=fun x=>(Below.refl _ _).alloc (nL _) x
 have b0:(hdX c g:Int) / 16777216=197:=by unfold hdX;omega
 have b1:bits .and .u32 ((hdX c g:Int) / 65536) 15=(c:Int)+1:=by
  have e:(hdX c g:Int) / 65536=50432+16+(c:Int)+1:=by unfold hdX;omega
  rw [e];have Gj:c=0\/c=1\/c=2\/c=3\/c=4:=oM;rcases Gj with rfl | rfl | rfl | rfl | rfl <;> decide
 have b2:(hdX c g:Int) / 1048576=3153:=by unfold hdX;omega
 have b5:bits .and .u32 3153 15=1:=by decide
 have b3:IntKind.u16.wrap (hdX c g:Int)=(g:Int):=by rw [IntKind.wrap_u16];unfold hdX;omega
 have b6:((g:Int) == 0)=false:=by rw [beq_eq_false_iff_ne];omega
 have d0:decide ((c:Int) < 0)=false:=dF;generalize hdX c g=xx at *;generalize z4m xx=z at *;have q1:((z:Int) == (z:Int))=true:=by simp
 clear ht hp;go_enter Tryz.func350,Tryz.ntmps350
 go_wp2_with (go_at_call 374;refine (HS.out _ (Gc.out _)).mono ?_;rintro e w1 ⟨rfl,Gg⟩;have Gd:=hid ((Gc.out (.cells #[.int .i64 0,.int .i64 0,.int .u16 0] 304)).trans (Gg.mono (by simp)));have HK:=hid ((Blk.new w 304 #[.int .i64 0,.int .i64 0,.int .u16 0]).below Gg (Blk.new w 304 #[.int .i64 0,.int .i64 0,.int .u16 0]).lt);clear Gg)
 have Ga:=hid (Gd.out.alloc Gd.out.size (.cells #[.int .i64 c,.int .i64 0,.int .u16 g] 304));have Ge:=hid (HK.out.below (Below.refl _ w1 |>.alloc (nL _) (.cells #[.int .i64 c,.int .i64 0,.int .u16 g] 304)) HK.out.lt);have Gf:=hid (Blk.new w1 304 #[.int .i64 c,.int .i64 0,.int .u16 g]);generalize hw2:w1.alloc (.cells #[.int .i64 c,.int .i64 0,.int .u16 g] 304)=w2 at *;have Gh:=hid (HF.out w2 Ga.out);clear HF HS HK Gd hw2;refine Gh.out.mono ?_;rintro e w3 ⟨rfl,Gb⟩;have Gi:=hid (Ga.out.trans (Gb.mono Ga.out.size));have hk:=Ge.out.below Gb Ge.out.lt;have hn:=Gf.out.below Gb Gf.out.lt;have g0:w3.cell? ⟨w1.heap.size,0,none⟩=some (.int .i64 c):=hn.cell 0;have g1:w3.cell? ⟨w1.heap.size,1,none⟩=some (.int .i64 0):=hn.cell 1;have g2:w3.cell? ⟨w1.heap.size,2,none⟩=some (.int .u16 g):=hn.cell 2;have c0:w3.cell? ⟨w.heap.size,0,none⟩=some (.int .i64 0):=hk.cell 0;have c1:w3.cell? ⟨w.heap.size,1,none⟩=some (.int .i64 0):=hk.cell 1;have c2:w3.cell? ⟨w.heap.size,2,none⟩=some (.int .u16 0):=hk.cell 2;have z0:w3.frozen? ⟨w.heap.size,0,none⟩=false:=hk.frozen 0;have z1:w3.frozen? ⟨w.heap.size,1,none⟩=false:=hk.frozen 1;have z2:w3.frozen? ⟨w.heap.size,2,none⟩=false:=hk.frozen 2;clear Gb hk hn Gh Ge Gf Ga Gc;go_wp2;have Gk:(⟨w.heap.size,0,none⟩:Addr)≠⟨w.heap.size,1,none⟩:=by simp
 have Gl:(⟨w.heap.size,0,none⟩:Addr)≠⟨w.heap.size,2,none⟩:=by simp
 have Gm:(⟨w.heap.size,1,none⟩:Addr)≠⟨w.heap.size,2,none⟩:=by simp
 refine bodyPost_ret (v := .tuple #[.agg #[.int .i64 c,.int .i64 0,.int .u16 g],.bool true]) (by simp [results,Tryz.results350,go_sem,c0,c1,c2]) rfl ⟨rfl,?_⟩;exact ((Gi.out.setCell (p:=⟨w.heap.size,0,none⟩) (nL _) (.int .i64 c)).setCell (p:=⟨w.heap.size,1,none⟩) (nL _) (.int .i64 0)).setCell (p:=⟨w.heap.size,2,none⟩) (nL _) (.int .u16 g)
end
end
section
open Go.RowKit
theorem x5z {w:World} {B n:Nat} {A:Option Addr} {l:List Nat} (h:z0c w B 1 A n (u8s l)) {k:Nat} (hk:k < n) :
  ∃ (hl:k < l.length) (b off:Nat),A=some ⟨b,off,none⟩/\b < B/\w.cell? ⟨b,off+k,none⟩=some (.int .u8 ((l[k]:Nat):Int)):=by
 have hl:k < l.length:=by have:=h.1;simp [u8s] at this;omega
 obtain ⟨b,off,hA,hb,hc⟩:=h.plain oM oM;exact ⟨hl,b,off,hA,hb,hc k _ (by simp [u8s,hl])⟩
theorem z3j {w:World} {g n:Nat} {cs:Array Value} {t:TypeId} {l:List Value} (h:Blk w g t cs) (hl:l.length=n) (he:∀ (j:Nat) (u:Value),l[j]?=some u->cs[j]?=some u):z0c w w.heap.size 1 (some ⟨g,0,none⟩) n l:=by
 refine ⟨oM,fun hn=>⟨_,rfl,h.lt,fun j u hu=>?_⟩⟩;have h1:=h.cell (0+j);have e:(⟨g,0,none⟩:Addr).add j=⟨g,0+j,none⟩:=by
  unfold Addr.add;split
  ·rename_i h;subst h;rfl
  ·rfl
 rw [e,h1,Nat.zero_add];exact he j u hu
theorem w4c {l:List Nat} {b:Nat} (hl:∀ x∈l,x < 256) (h7:l.length<=7) (hb:b < 256):bits .or .u64 (lev l:Int) (((b * 2 ^ (8 * l.length):Nat):Int))=(lev (l++[b]):Int):=by
 have h1:=x1m l hl;have h2:(256:Nat) ^ l.length=2 ^ (8 * l.length):=by rw [Nat.pow_mul]
 rw [h2] at h1;have h3:(2:Nat) ^ (8 * l.length)<=2 ^ 56:=Nat.pow_le_pow_right oM oM;have h4:(2:Nat) ^ 56=72057594037927936:=by decide
 have h5:b * 2 ^ (8 * l.length)<=255 * 2 ^ (8 * l.length):=Nat.mul_le_mul_right _ oM;rw [y4o,h2,Nat.mul_comm (2 ^ (8 * l.length)) b];rw [bits_join_low .u64 64 (by decide) wraps_u64 (8 * l.length) (lev l:Int) ((b * 2 ^ (8 * l.length):Nat):Int) oM (by exact_mod_cast h1) oM oM (by
  have:((b * 2 ^ (8 * l.length):Nat):Int)=(b:Int) * 2 ^ (8 * l.length):=by push_cast;rfl
  rw [this];exact Int.mul_emod_left _ _) oM]
 push_cast;rfl
def pkW (p:List Nat) (i j:Nat):Nat:=lev (((p.take i).drop (8 * j)).take 8)
theorem x1y (p:List Nat) (j:Nat):pkW p 0 j=0:=by simp [pkW,lev]
theorem y7t {p:List Nat} {i j:Nat} (hi:i < p.length) (h:i / 8≠j):pkW p (i+1) j=pkW p i j:=by
 unfold pkW;congr 1
 rw [List.take_succ_eq_append_getElem hi];rw [List.drop_append];have hl:(p.take i).length=i:=by simp;omega
 rw [hl];rcases Nat.lt_or_gt_of_ne h with h1 | h1
 ·have e1:8 * j - i ≥ 1:=oM
  have:[p[i]].drop (8 * j - i)=[]:=by
   apply List.drop_eq_nil_of_le;simp;omega
  rw [this,List.append_nil]
 ·rw [List.take_append_of_le_length (by rw [List.length_drop,hl];omega)]
theorem x1x {p:List Nat} {i:Nat} (hi:i < p.length) (hp:∀ b∈p,b < 256):∃ l:List Nat,pkW p i (i / 8)=lev l/\pkW p (i+1) (i / 8)=lev (l++[p[i]])/\l.length=i % 8/\∀ x∈l,x < 256:=by
 have hl:(p.take i).length=i:=by simp;omega
 refine ⟨(p.take i).drop (8 * (i / 8)),?_,?_,?_,fun x hx=>hp x (List.mem_of_mem_take (List.mem_of_mem_drop hx))⟩
 ·unfold pkW
  rw [List.take_of_length_le];rw [List.length_drop,hl];omega
 ·unfold pkW
  rw [List.take_succ_eq_append_getElem hi,List.drop_append_of_le_length (by rw [hl];omega),List.take_of_length_le];rw [List.length_append,List.length_drop,hl];simp;omega
 ·rw [List.length_drop,hl];omega
theorem x8l (p:List Nat) (j:Nat):pkW p p.length j=lev ((p.drop (8 * j)).take 8):=by unfold pkW;rw [List.take_length]
theorem y1o (n:Nat) (hn:n<=100000) (w:World):Calls Tryz.prog 296 #[.int .i64 n] w fun e w'=>e=.returned (.int .i64 (((n+7) / 8:Nat):Int))/\w=w':=by
 by_cases h:n % 8=0
 ·have e1:((n:Int) % 8 == 0)=true:=by rw [beq_iff_eq];omega
  have e2:((n:Int) % 8 != 0)=false:=by rw [bne,e1];rfl
  have e3:(n:Int).tmod 8=(n:Int) % 8:=by rw [Int.tmod_eq_emod_of_nonneg oM]
  have e5:(n:Int) / 8=(((n+7) / 8:Nat):Int):=oM;have e6:wrap64 ((n:Int) / 8)=(((n+7) / 8:Nat):Int):=by rw [e5];exact IntWalk.wrap64_in _ oM
  have e4:(n:Int).tdiv 8=(((n+7) / 8:Nat):Int):=by rw [Int.tdiv_eq_ediv_of_nonneg oM];omega
  generalize (n+7) / 8=q at *;go_enter Tryz.func296,Tryz.ntmps296
  go_wp2;go_ret;exact ⟨rfl,rfl⟩
 ·have e1:((n:Int) % 8 == 0)=false:=by rw [beq_eq_false_iff_ne];omega
  have e2:((n:Int) % 8 != 0)=true:=by rw [bne,e1];rfl
  have e3:(n:Int).tmod 8=(n:Int) % 8:=by rw [Int.tmod_eq_emod_of_nonneg oM]
  have e4:(n:Int).tdiv 8+1=(((n+7) / 8:Nat):Int):=by rw [Int.tdiv_eq_ediv_of_nonneg oM];omega
  have e5:(n:Int) / 8+1=(((n+7) / 8:Nat):Int):=oM;have e6:wrap64 ((n:Int) / 8+1)=(((n+7) / 8:Nat):Int):=by rw [e5];exact IntWalk.wrap64_in _ oM
  generalize (n+7) / 8=q at *;go_enter Tryz.func296,Tryz.ntmps296
  go_wp2;go_ret;exact ⟨rfl,rfl⟩
def w4n (w:World) (l:List Nat) (e:Ending) (w':World):Prop:=∃ A m c,e=.returned (.slice A m c)/\m=l.length/\z0c w' w'.heap.size 1 A m (z0a l)/\(∀ ad,A=some ad->w.heap.size<=ad.block)/\Blw w w'
theorem x1o (n j:Nat) (h:j < n):(madeCells #[.int .u64 0] n)[j]?=some (.int .u64 0):=by
 rw [<- Array.getElem?_toList,toList_madeCells_one];simp [h]
theorem y2y (n:Nat):(madeCells #[.int .u64 0] n).size=n:=by rw [size_madeCells]
theorem w1z (n:Nat) (hn:n<=1000000) (W:World):(Instr.makeSlice 99 (.int .i64 n) (.int .i64 n)).run Tryz.prog W=.ok (.slice (some ⟨W.heap.size,0,none⟩) n n) (W.alloc (.cells (madeCells #[.int .u64 0] n) 32)):=by
 obtain ⟨j0,Gb,Gc,Ga,Gd⟩:=info_parts z5t;have h:=run_makeSlice (P:=Tryz.prog) W 99 32 j0 (.int .u64 0) Tryz.underlying99 Gb Gc .i64 .i64 (n:Int) (n:Int) oM oM (by rw [Ga];omega) (by rw [Gd];omega) oM;rw [Ga,Int.toNat_natCast,Nat.mul_one] at h;exact h
theorem w2e (A:Option Addr) (n c:Nat) (p:List Nat) (w:World) (h:z0c w w.heap.size 1 A n (u8s p)) (hp:∀ b∈p,b < 256) (hn:n<=100000) :
  Calls Tryz.prog 204 #[.slice A n c] w (w4n w (z2a p)):=by
 have Gg:p.length=n:=by have:=h.1;simp [u8s] at this;omega
 have HW:=hid (y1o n hn);have HR:=hid h;have HP:=hid hp;have HL:=hid Gg;clear h hp Gg;obtain ⟨q,hq⟩:∃ q,(n+7) / 8=q:=⟨_,rfl⟩
 have Gn:q<=100000:=oM;have Gm:n<=8 * q:=oM;rw [hq] at HW;have HQ:=hid hq;clear hq;have Gl:=w1z q oM;go_enter Tryz.func204,Tryz.ntmps204
 go_wp2_with (go_at_call 296;refine (HW.out _).mono ?_;rintro e w1 ⟨rfl,rfl⟩)
 go_loopw [12] (fun i wr=>∃ k:Nat,k<=n/\i=.int .i64 k/\Hid (∃ cs,Blk wr w.heap.size 32 cs/\cs.size=q/\∀ j,j < q->cs[j]?=some (.int .u64 (pkW p k j:Int)))/\Hid (Blw w wr)) (fun i _=>n - (Go.RowKit.intOf i).toNat)
 case atStart =>
  refine ⟨0,Nat.zero_le _,rfl,hid ⟨_,Blk.new w _ _,y2y q,fun j hj=>?_⟩,hid ((Below.refl _ _).alloc (nL _) _)⟩;rw [x1o q j hj,x1y];rfl
 case round =>
  obtain ⟨k,hk,rfl,HC,HB⟩:=hrel;by_cases hlt:k < n
  ·obtain ⟨hl,b,Gr,hA,Gh,f0⟩:=x5z (HR.out.below HB.out) hlt
   subst hA;obtain ⟨cs,hB,Gc,Gb⟩:=HC.out;have Gf:k / 8 < q:=oM;have c0:=Gb (k / 8) Gf;obtain ⟨l,e1,e2,e3,e4⟩:=x1x hl HP.out;have Ga:p[k] < 256:=HP.out _ (List.getElem_mem hl);have HN:Hid (∃ cs',Blk (wr.setCell ⟨w.heap.size,k / 8,none⟩ (.int .u64 (pkW p (k+1) (k / 8):Int))) w.heap.size 32 cs'/\cs'.size=q/\∀ j,j < q->cs'[j]?=some (.int .u64 (pkW p (k+1) j:Int))):=hid ⟨_,hB.set_ (k / 8) _,by simp [Gc],fun j hj=>by
    rw [Array.getElem?_setIfInBounds];by_cases e:k / 8=j
    ·subst e
     simp [Gc,Gf]
    ·rw [if_neg e,Gb j hj,y7t hl e]⟩
   have Gd:Hid (Blw w (wr.setCell ⟨w.heap.size,k / 8,none⟩ (.int .u64 (pkW p (k+1) (k / 8):Int)))):=hid (HB.out.setCell (nL _) _);rw [e2] at HN Gd;rw [e1] at c0;have f1:wr.cell? ⟨w.heap.size,k / 8,none⟩=some (.int .u64 (lev l:Int)):=by rw [hB.cell];exact c0
   have z1:wr.frozen? ⟨w.heap.size,k / 8,none⟩=false:=hB.frozen _;have hx:=w4c e4 oM Ga;have HX:Hid (bits .or .u64 (lev l:Int) (IntKind.u64.wrap (((p[k]:Nat):Int) * 2 ^ (k % 8 * 8)))=(lev (l++[p[k]]):Int)):=hid (by
    have h1:(p[k] * 2 ^ (8 * l.length):Nat)<=255 * 2 ^ 56:=Nat.mul_le_mul oM (Nat.pow_le_pow_right oM oM);have h2:(255:Nat) * 2 ^ 56=18374686479671623680:=by decide
    rw [<- hx,e3,Nat.mul_comm 8 (k % 8)];rw [e3,Nat.mul_comm 8 (k % 8)] at h1;have h3:(((p[k]:Nat):Int) * 2 ^ (k % 8 * 8))=((p[k] * 2 ^ (k % 8 * 8):Nat):Int):=by push_cast;rfl
    rw [h3,wraps_u64 _ oM oM])
   clear hx;have Gi:=hid e3;clear e1 e2 e4 hB Gb Gc c0 HC Gh e3;generalize p[k]=bt at *;have Gp:(0:Int)<=(k:Int):=oM;have Gq:(k:Int) < (n:Int):=oM;go_wp2;go_roundw
   case rel =>
    first
     | (
       refine ⟨k+1,oM,by go_num,?_,?_⟩
       ·rw [HX.out];exact HN
       ·rw [HX.out];exact Gd)
     | (
       repeat apply Exists.intro
       refine ⟨?_,rfl⟩;refine ⟨k+1,oM,by go_num,?_,?_⟩
       ·rw [HX.out];exact HN
       ·rw [HX.out];exact Gd)
   case measure=>simp [Go.RowKit.intOf];omega
  ·have Ge:k=n:=oM
   have HF:Hid (w4n w (z2a p) (.returned (.slice (some ⟨w.heap.size,0,none⟩) q q)) wr):=hid (by
    obtain ⟨cs,hB,Gc,Gb⟩:=HC.out;refine ⟨_,q,q,rfl,?_,z3j hB ?_ ?_,fun ad h=>by injection h with h;subst h;exact nL _,HB.out⟩
    ·rw [z3x,HL.out];exact HQ.out.symm
    ·simp [z0a,z3x,HL.out,HQ.out]
    ·intro j u hu
     have hj:j < q:=by
      have h1:=(List.getElem?_eq_some_iff.1 hu).1;simp [z0a,z3x,HL.out,HQ.out] at h1;omega
     rw [Gb j hj,Ge,<- HL.out,x8l];rw [<- hu];simp [z0a,z2a,HL.out,HQ.out,hj])
   have Gj:decide ((k:Int) < (n:Int))=false:=dF;have Gk:decide (k < n)=false:=decide_eq_false hlt;clear Ge hlt hk HC;go_wp2;go_ret;exact HF.out
section
variable {a:DA} {L T:Nat} {w:World} {S:Fp} {cur:Nat->Nat} {F:Nat}
theorem z8e (h:Dev a L T w S cur F) (ht:Tab w) (c g:Nat) (hc:c+32<=L) (hg0:0 < g) (hg:g < 65536) (hv:cur (8 * c)=z4d g) :
  Calls Tryz.prog 293 #[memV a,.int .i64 c] w fun e w'=>e=.returned (.tuple #[.agg #[.int .i64 (-1),.int .i64 (-1),.int .u16 g],.int .i64 0])/\Blw w w' :=
 y7h h c hc (z4d g) (-1) (-1) (g:Int) hv (fun W hW=>y7a g hg0 hg W (ht.below hW))
theorem x1n (h:Dev a L T w S cur F) (ht:Tab w) (hp:Pay w) (c cl g:Nat) (hc:c+32<=L) (hcl:cl < 5) (hg0:0 < g) (hg:g < 65536) (hv:cur (8 * c)=hdrW cl g) :
  Calls Tryz.prog 293 #[memV a,.int .i64 c] w fun e w'=>e=.returned (.tuple #[.agg #[.int .i64 cl,.int .i64 0,.int .u16 g],.int .i64 0])/\Blw w w' :=
 y7h h c hc (hdrW cl g) (cl:Int) 0 (g:Int) hv (fun W hW=>y2s cl g hcl hg0 hg W (ht.below hW) (hp.below hW))
end
def y2l:Value := .agg #[.nilIface,.int .i64 0,.int .i64 0,.int .i64 0,.int .u16 0]
section
variable {a:DA} {L T:Nat} {w:World} {S:Fp} {cur:Nat->Nat} {F:Nat}
theorem z8z (h:Dev a L T w S cur F) (ht:Tab w) (c g:Nat) (hc:c+32<=L) (hg0:0 < g) (hg:g < 65536) (hv:cur (8 * c)=z4d g) :
  Calls Tryz.prog 195 #[memV a,.int .i64 c] w fun e w'=>e=.returned (.tuple #[y2l,.int .i64 8])/\Blw w w':=by
 have Gb:Hid (Blw w (w.alloc (.cells #[.nilIface,.int .i64 0,.int .i64 0,.int .i64 0,.int .u16 0] 306))):=(Below.refl _ _).alloc (nL _) _;have HL:=hid (z8e (h.below Gb.out) (ht.below Gb.out) c g hc hg0 hg hv);clear h ht hv;unfold y2l;unfold memV at *;have Gd:=hid (Blk.new w 306 #[.nilIface,.int .i64 0,.int .i64 0,.int .i64 0,.int .u16 0]);go_enter Tryz.func195,Tryz.ntmps195
 go_wp2_with fail
 refine HL.out.mono ?_;rintro e w1 ⟨rfl,Gc⟩;have Gf:=hid (Gb.out.trans (Gc.mono Gb.out.size));have Ga:=Gd.out.below Gc Gd.out.lt;have Ge:=Ga.lt;have c0:w1.cell? ⟨w.heap.size,0,none⟩=some (.nilIface):=Ga.cell 0;have z0:w1.frozen? ⟨w.heap.size,0,none⟩=false:=Ga.frozen 0;have c1:w1.cell? ⟨w.heap.size,1,none⟩=some (.int .i64 0):=Ga.cell 1;have z1:w1.frozen? ⟨w.heap.size,1,none⟩=false:=Ga.frozen 1;have c2:w1.cell? ⟨w.heap.size,2,none⟩=some (.int .i64 0):=Ga.cell 2;have z2:w1.frozen? ⟨w.heap.size,2,none⟩=false:=Ga.frozen 2;have c3:w1.cell? ⟨w.heap.size,3,none⟩=some (.int .i64 0):=Ga.cell 3;have z3:w1.frozen? ⟨w.heap.size,3,none⟩=false:=Ga.frozen 3;have c4:w1.cell? ⟨w.heap.size,4,none⟩=some (.int .u16 0):=Ga.cell 4;have z4:w1.frozen? ⟨w.heap.size,4,none⟩=false:=Ga.frozen 4;have Gg:w.heap.size < w1.heap.size:=Ge;clear Gc Ga HL;go_wp2;have Gh:(⟨w.heap.size,0,none⟩:Addr)≠⟨w.heap.size,1,none⟩:=by simp
 have Gi:(⟨w.heap.size,0,none⟩:Addr)≠⟨w.heap.size,2,none⟩:=by simp
 have Gj:(⟨w.heap.size,0,none⟩:Addr)≠⟨w.heap.size,3,none⟩:=by simp
 have Gk:(⟨w.heap.size,0,none⟩:Addr)≠⟨w.heap.size,4,none⟩:=by simp
 have Gl:(⟨w.heap.size,1,none⟩:Addr)≠⟨w.heap.size,2,none⟩:=by simp
 have Gm:(⟨w.heap.size,1,none⟩:Addr)≠⟨w.heap.size,3,none⟩:=by simp
 have Gn:(⟨w.heap.size,1,none⟩:Addr)≠⟨w.heap.size,4,none⟩:=by simp
 have Go:(⟨w.heap.size,2,none⟩:Addr)≠⟨w.heap.size,3,none⟩:=by simp
 have Gp:(⟨w.heap.size,2,none⟩:Addr)≠⟨w.heap.size,4,none⟩:=by simp
 have Gq:(⟨w.heap.size,3,none⟩:Addr)≠⟨w.heap.size,4,none⟩:=by simp
 refine bodyPost_ret (v := .tuple #[.agg #[.nilIface,.int .i64 0,.int .i64 0,.int .i64 0,.int .u16 0],.int .i64 8]) (by simp [results,Tryz.results195,go_sem,c0,c1,c2,c3,c4,Ge]) rfl ⟨rfl,?_⟩;have h1:=(((((Gf.out.setCell (p:=⟨w.heap.size,0,none⟩) (nL _) (.nilIface)).setCell (p:=⟨w.heap.size,1,none⟩) (nL _) (.int .i64 0)).setCell (p:=⟨w.heap.size,2,none⟩) (nL _) (.int .i64 0)).setCell (p:=⟨w.heap.size,3,none⟩) (nL _) (.int .i64 0)).setCell (p:=⟨w.heap.size,4,none⟩) (nL _) (.int .u16 0))
 exact h1.alloc h1.size _
theorem z3q (h:Dev a L T w S cur F) (ht:Tab w) (hp:Pay w) (c cl g:Nat) (hc:c+32<=L) (hcl:cl < 5) (hg0:0 < g) (hg:g < 65536) (hv:cur (8 * c)=hdrW cl g) :
  Calls Tryz.prog 195 #[memV a,.int .i64 c] w fun e w'=>e=.returned (.tuple #[chV a c cl 0 g,.int .i64 0])/\Blw w w':=by
 have Gb:Hid (Blw w (w.alloc (.cells #[.nilIface,.int .i64 0,.int .i64 0,.int .i64 0,.int .u16 0] 306))):=(Below.refl _ _).alloc (nL _) _;have HL:=hid (x1n (h.below Gb.out) (ht.below Gb.out) (hp.below Gb.out) c cl g hc hcl hg0 hg hv);clear h ht hv hp;unfold chV;have d0:decide ((cl:Int) < 0)=false:=dF;unfold memV at *;have Gd:=hid (Blk.new w 306 #[.nilIface,.int .i64 0,.int .i64 0,.int .i64 0,.int .u16 0]);go_enter Tryz.func195,Tryz.ntmps195
 go_wp2_with fail
 refine HL.out.mono ?_;rintro e w1 ⟨rfl,Gc⟩;have Gf:=hid (Gb.out.trans (Gc.mono Gb.out.size));have Ga:=Gd.out.below Gc Gd.out.lt;have Ge:=Ga.lt;have c0:w1.cell? ⟨w.heap.size,0,none⟩=some (.nilIface):=Ga.cell 0;have z0:w1.frozen? ⟨w.heap.size,0,none⟩=false:=Ga.frozen 0;have c1:w1.cell? ⟨w.heap.size,1,none⟩=some (.int .i64 0):=Ga.cell 1;have z1:w1.frozen? ⟨w.heap.size,1,none⟩=false:=Ga.frozen 1;have c2:w1.cell? ⟨w.heap.size,2,none⟩=some (.int .i64 0):=Ga.cell 2;have z2:w1.frozen? ⟨w.heap.size,2,none⟩=false:=Ga.frozen 2;have c3:w1.cell? ⟨w.heap.size,3,none⟩=some (.int .i64 0):=Ga.cell 3;have z3:w1.frozen? ⟨w.heap.size,3,none⟩=false:=Ga.frozen 3;have c4:w1.cell? ⟨w.heap.size,4,none⟩=some (.int .u16 0):=Ga.cell 4;have z4:w1.frozen? ⟨w.heap.size,4,none⟩=false:=Ga.frozen 4;have Gg:w.heap.size < w1.heap.size:=Ge;clear Gc Ga HL;go_wp2;have Gh:(⟨w.heap.size,0,none⟩:Addr)≠⟨w.heap.size,1,none⟩:=by simp
 have Gi:(⟨w.heap.size,0,none⟩:Addr)≠⟨w.heap.size,2,none⟩:=by simp
 have Gj:(⟨w.heap.size,0,none⟩:Addr)≠⟨w.heap.size,3,none⟩:=by simp
 have Gk:(⟨w.heap.size,0,none⟩:Addr)≠⟨w.heap.size,4,none⟩:=by simp
 have Gl:(⟨w.heap.size,1,none⟩:Addr)≠⟨w.heap.size,2,none⟩:=by simp
 have Gm:(⟨w.heap.size,1,none⟩:Addr)≠⟨w.heap.size,3,none⟩:=by simp
 have Gn:(⟨w.heap.size,1,none⟩:Addr)≠⟨w.heap.size,4,none⟩:=by simp
 have Gp:(⟨w.heap.size,2,none⟩:Addr)≠⟨w.heap.size,3,none⟩:=by simp
 have Gq:(⟨w.heap.size,2,none⟩:Addr)≠⟨w.heap.size,4,none⟩:=by simp
 have Gr:(⟨w.heap.size,3,none⟩:Addr)≠⟨w.heap.size,4,none⟩:=by simp
 refine bodyPost_ret (v := .tuple #[.agg #[.iface 58 (.pointer (some ⟨a.th 0,0,none⟩)),.int .i64 c,.int .i64 cl,.int .i64 0,.int .u16 g],.int .i64 0]) (by simp [results,Tryz.results195,go_sem,c0,c1,c2,c3,c4,Ge]) rfl ⟨rfl,?_⟩;have h1:=(((((Gf.out.setCell (p:=⟨w.heap.size,0,none⟩) (nL _) (.iface 58 (.pointer (some ⟨a.th 0,0,none⟩)))).setCell (p:=⟨w.heap.size,1,none⟩) (nL _) (.int .i64 c)).setCell (p:=⟨w.heap.size,2,none⟩) (nL _) (.int .i64 cl)).setCell (p:=⟨w.heap.size,3,none⟩) (nL _) (.int .i64 0)).setCell (p:=⟨w.heap.size,4,none⟩) (nL _) (.int .u16 g))
 exact h1.alloc h1.size _
end
end
section
open Go.RowKit
structure ChW (cur:Nat->Nat) (ln cl g V:Nat) (bs:Nat->BK):Prop where
 hdr:cur (8 * ln)=hdrW cl g
 cls:cl < 5
 g0:0 < g
 g1:g < 65536
 bits:cur (8 * ln+1)=V
 v64:V < 18446744073709551616
 zero:∀ j,2<=j->j < 8->cur (8 * ln+j)=0
 inn:∀ i,i < perC cl->(bs i).In
 good:∀ i,i < perC cl->(bs i).good=true
 word:∀ i,i < perC cl->cur (8 * ln+offB cl i)=(bs i).w
 bit:∀ i,i < perC cl->z1r V i=decide ((bs i).st≠176)
 top:V < 2 ^ perC cl
def fndC (ln cl off:Nat):Option Nat:=if off < 64 * ln\/64 * ln+2048<=off then none else y1u cl ((off - 64 * ln) / 8)
def fndR (ln cl off:Nat):Value:=match fndC ln cl off with
 | some i => .tuple #[.int .i64 i,.bool true]
 | none => .tuple #[.int .i64 0,.bool false]
theorem y6p {ln cl off i:Nat} (h:fndC ln cl off=some i):i < perC cl/\64 * ln<=off/\off / 8=8 * ln+offB cl i+1:=by
 unfold fndC at h;split at h
 ·cases h
 ·obtain ⟨h1,h2⟩:=x3q h
  refine ⟨h1,oM,oM⟩
section
theorem x3b (a:DA) (ln cl g off:Nat) (hl:ln<=1000000) (hc:cl < 5) (ho:off < 18446744073709551616) (w:World) (hp:Pay w) :
  Calls Tryz.prog 294 #[chV a ln cl 0 g,.int .u64 off] w fun e w'=>e=.returned (fndR ln cl off)/\Blw w w':=by
 have Gc:Blw w (w.alloc (.cells (z0o a ln cl g) 306)):=(Below.refl _ _).alloc (nL _) _;have Ga:=hid Gc;have Gb:=hid (z4n ln hl);have Ge:Hid (∀ x:Nat,x<=1000000000->Calls Tryz.prog 314 #[.int .i64 cl,.int .i64 x] (w.alloc (.cells (z0o a ln cl g) 306)) fun e w'=>e=.returned (z9h cl x)/\(w.alloc (.cells (z0o a ln cl g) 306))=w'):=hid (fun x hx=>y3i cl x hc hx _ (hp.below Gc));have hq:=y0k (some ⟨a.th 0,0,none⟩);clear hp Gc;unfold chV;unfold z0o memV at *;by_cases h1:off < 64 * ln
 ·have HR:Hid (fndR ln cl off=.tuple #[.int .i64 0,.bool false]):=hid (by unfold fndR fndC;rw [if_pos (.inl h1)])
  have d1:decide ((off:Int) < ((64 * ln:Nat):Int))=true:=dT;generalize fndR ln cl off=rr at *;have hz:64 * ln < 9000000000:=oM;generalize 64 * ln=z at *;go_enter Tryz.func294,Tryz.ntmps294
  go_wp2_with (go_at_call 339;refine (Gb.out _).mono ?_;rintro e w1 ⟨rfl,rfl⟩)
  go_ret2;exact ⟨by rw [HR.out];rfl,Ga.out⟩
 ·have d1:decide ((off:Int) < ((64 * ln:Nat):Int))=false:=dF
  have Gh:decide (off < 64 * ln)=false:=decide_eq_false h1;obtain ⟨y,hy⟩:∃ y,off - 64 * ln=y:=⟨_,rfl⟩
  have u1:IntKind.u64.wrap ((off:Int) - ((64 * ln:Nat):Int))=(y:Int):=by rw [IntKind.wrap_u64];omega
  by_cases h2:64 * ln+2048<=off
  ·have HR:Hid (fndR ln cl off=.tuple #[.int .i64 0,.bool false]):=hid (by unfold fndR fndC;rw [if_pos (.inr h2)])
   have d2:decide (2048<=(y:Int))=true:=dT;generalize fndR ln cl off=rr at *;have hz:64 * ln < 9000000000:=oM;clear hy h1 h2;generalize 64 * ln=z at *;go_enter Tryz.func294,Tryz.ntmps294
   go_wp2_with (go_at_call 339;refine (Gb.out _).mono ?_;rintro e w1 ⟨rfl,rfl⟩)
   go_ret2;exact ⟨by rw [HR.out];rfl,Ga.out⟩
  ·have HR:Hid (fndR ln cl off=z9h cl (y / 8)):=hid (by unfold fndR fndC z9h;rw [if_neg oM,hy];rfl)
   have d2:decide (2048<=(y:Int))=false:=dF;have Gi:y < 2048:=oM;have Gd:=hid (Ge.out (y / 8) oM);have u2:(y:Int) / 8=((y / 8:Nat):Int):=oM;have u3:IntKind.i64.wrap ((y / 8:Nat):Int)=((y / 8:Nat):Int):=IntWalk.i64_in _ oM;have Gj:y / 8 < 256:=oM;generalize fndR ln cl off=rr at *;have hz:64 * ln < 9000000000:=oM;clear hy h1 h2 Ge;generalize 64 * ln=z at *;generalize y / 8=q at *;have Gf:Hid (∃ (k:Int) (b:Bool),z9h cl q=.tuple #[.int .i64 k,.bool b]):=hid (by
    unfold z9h;cases y1u cl q with
    | none=>exact ⟨0,false,rfl⟩
    | some i=>exact ⟨(i:Int),true,rfl⟩)
   obtain ⟨fk,fb,Gg⟩:=Gf.out;rw [Gg] at Gd HR;clear Gg Gf;go_enter Tryz.func294,Tryz.ntmps294
   go_wp2_with (first
    | (go_at_call 339;refine (Gb.out _).mono ?_;rintro e w1 ⟨rfl,rfl⟩)
    | (go_at_call 314;refine Gd.out.mono ?_;rintro e w1 ⟨rfl,rfl⟩))
   go_ret2;exact ⟨by rw [HR.out];rfl,Ga.out⟩
end
end
section
open Go.RowKit
def unpB (xs:List Nat) (n:Nat):List Nat:=(List.range n).map fun i=>xs.getD (i / 8) 0 / 256 ^ (i % 8) % 256
theorem z3c (xs:List Nat) (n:Nat):(unpB xs n).length=n:=by simp [unpB]
theorem x9k {p:List Nat} (hp:∀ b∈p,b < 256):unpB (z2a p) p.length=p:=by
 apply List.ext_getElem
 ·simp [unpB]
 ·intro i h1 h2
  obtain ⟨x,hx,he⟩:=x4m hp h2;simp only [unpB,List.getElem_map,List.getElem_range];rw [List.getD_eq_getElem?_getD,hx];exact he
def z4o (xs:List Nat) (n:Nat):Bool:=decide (n % 8≠0) && decide (xs.getD (n / 8) 0 / 256 ^ (n % 8)≠0)
theorem x0m {p:List Nat} (hp:∀ b∈p,b < 256):z4o (z2a p) p.length=false:=by
 unfold z4o;by_cases h:p.length % 8=0
 ·simp [h]
 ·have e:(z2a p).getD (p.length / 8) 0=lev ((p.drop (8 * (p.length / 8))).take 8):=by
   rw [List.getD_eq_getElem?_getD];unfold z2a;rw [List.getElem?_map,List.getElem?_range oM];rfl
  have hl:((p.drop (8 * (p.length / 8))).take 8).length=p.length % 8:=by simp;omega
  have h1:=x1m ((p.drop (8 * (p.length / 8))).take 8) (fun b hb=>hp b (List.mem_of_mem_drop (List.mem_of_mem_take hb)));rw [hl] at h1;rw [e,Nat.div_eq_of_lt h1];simp
def RetB (w:World) (l:List Nat) (e:Ending) (w':World):Prop:=∃ A m c,e=.returned (.tuple #[.slice A m c,.int .i64 0])/\m=l.length/\z0c w' w'.heap.size 1 A m (u8s l)/\(∀ ad,A=some ad->w.heap.size<=ad.block)/\Blw w w'
def y2g (w:World) (xs:List Nat) (n:Nat) (e:Ending) (w':World):Prop:=if z4o xs n=true then e=.returned (.tuple #[.slice none 0 0,.int .i64 11])/\Blw w w' else RetB w (unpB xs n) e w'
theorem x7j:(Tryz.prog.info? 5).map (fun i=>(i.zero,i.size,i.bytes))=some (some (.int .u8 0),1,1):=by kernel_rfl
theorem w8h (n:Nat) (hn:n<=1000000) (W:World):(Instr.makeSlice 24 (.int .i64 n) (.int .i64 n)).run Tryz.prog W=.ok (.slice (some ⟨W.heap.size,0,none⟩) n n) (W.alloc (.cells (madeCells #[.int .u8 0] n) 5)):=by
 obtain ⟨j0,Gb,Gc,Ga,Gd⟩:=info_parts x7j;have h:=run_makeSlice (P:=Tryz.prog) W 24 5 j0 (.int .u8 0) Tryz.underlying24 Gb Gc .i64 .i64 (n:Int) (n:Int) oM oM (by rw [Ga];omega) (by rw [Gd];omega) oM;rw [Ga,Int.toNat_natCast,Nat.mul_one] at h;exact h
theorem x5a (A:Option Addr) (q c n:Nat) (xs:List Nat) (w:World) (h:z0c w w.heap.size 1 A q (z0a xs)) (hx:∀ x∈xs,x < 18446744073709551616) (hn:n<=100000) (hq:(n+7) / 8=q) :
  Calls Tryz.prog 309 #[.slice A q c,.int .i64 n] w (y2g w xs n):=by
 have Gh:xs.length=q:=by have:=h.1;simp [z0a] at this;omega
 have HW:=hid (y1o n hn);rw [hq] at HW;have HR:=hid h;have HX:=hid hx;have HL:=hid Gh;have HQ:=hid hq;have Gw:=w8h n oM;have Gy:n<=8 * q:=oM;have Gz:q<=100000:=oM;have Gx:decide ((n:Int) < 0)=false:=dF;have HC:Hid (z4o xs n=true->n % 8≠0):=hid (fun hb=>by unfold z4o at hb;simp at hb;exact hb.1);clear h hx Gh;have HI:Hid (n % 8≠0->∃ (j b Gb:Nat),(q:Int) - 1=(j:Int)/\j < q/\A=some ⟨b,Gb,none⟩/\w.cell? ⟨b,Gb+j,none⟩=some (.int .u64 (xs.getD (n / 8) 0:Int))/\xs.getD (n / 8) 0 < 18446744073709551616/\((((xs.getD (n / 8) 0:Nat):Int) / 2 ^ (n % 8 * 8)) != 0)=z4o xs n):=hid (fun h8=>by
  have hj:n / 8 < q:=oM;obtain ⟨hl,b,Gb,hA,Gf,f0⟩:=z2b HR.out hj;have e:xs.getD (n / 8) 0=xs[n / 8]:=by rw [List.getD_eq_getElem?_getD,List.getElem?_eq_getElem hl];rfl
  refine ⟨n / 8,b,Gb,oM,hj,hA,by rw [e];exact f0,by rw [e];exact HX.out _ (List.getElem_mem hl),?_⟩;have e2:(((xs.getD (n / 8) 0:Nat):Int) / 2 ^ (n % 8 * 8))=((xs.getD (n / 8) 0 / 256 ^ (n % 8):Nat):Int):=by
   rw [show (256:Nat)=2 ^ 8 by decide,<- Nat.pow_mul,Nat.mul_comm 8 (n % 8)];push_cast;rfl
  rw [e2];unfold z4o;generalize xs.getD (n / 8) 0 / 256 ^ (n % 8)=z;by_cases hz:z=0
  ·subst hz;simp
  ·have h1:(((z:Nat):Int) != 0)=true:=by rw [bne,beq_eq_false_iff_ne.2 oM];rfl
   rw [h1,decide_eq_true h8,decide_eq_true hz];rfl)
 by_cases hb:z4o xs n=true
 ·have h8:=HC.out hb
  obtain ⟨j,b,Gb,ej,Gr,hA,f0,Ga,hz⟩:=HI.out h8;subst hA;rw [hb] at hz;have Gk:=hid hb;have e1:(((n:Int) % 8) != 0)=true:=by rw [bne,beq_eq_false_iff_ne.2 oM];rfl
  have Gm:wrap64 ((q:Int) - 1)=(j:Int):=by rw [ej];exact IntWalk.wrap64_in _ oM
  generalize xs.getD (n / 8) 0=z at *;have Gp:(0:Int)<=(j:Int):=oM;have Gq:(j:Int) < (q:Int):=oM;clear HI HC hb h8;go_enter Tryz.func309,Tryz.ntmps309
  go_wp2_with (go_at_call 296;refine (HW.out _).mono ?_;rintro e w1 ⟨rfl,rfl⟩)
  go_ret2;unfold y2g;rw [if_pos Gk.out];exact ⟨rfl,Below.refl _ _⟩
 ·have Gl:=hid hb
  go_enter Tryz.func309,Tryz.ntmps309
  go_upto_region 5 with (go_at_call 296;refine (HW.out _).mono ?_;rintro e w1 ⟨rfl,rfl⟩)
  go_cut [31] from 15 to 31 (fun v wx=>v=.bool false/\Hid (wx=w))
  case first =>
   by_cases h8:n % 8=0
   ·have e1:(((n:Int) % 8) != 0)=false:=by rw [bne,beq_iff_eq.2 oM];rfl
    clear HI HC hb;go_wp2_with fail
    go_meet;exact ⟨rfl,hid rfl⟩
   ·obtain ⟨j,b,Gb,ej,Gr,hA,f0,Ga,hz⟩:=HI.out h8
    subst hA;have Gn:z4o xs n=false:=by simpa using hb
    rw [Gn] at hz;have e1:(((n:Int) % 8) != 0)=true:=by rw [bne,beq_eq_false_iff_ne.2 oM];rfl
    have Gm:wrap64 ((q:Int) - 1)=(j:Int):=by rw [ej];exact IntWalk.wrap64_in _ oM
    generalize xs.getD (n / 8) 0=z at *;have Gp:(0:Int)<=(j:Int):=oM;have Gq:(j:Int) < (q:Int):=oM;clear HI HC hb h8;go_wp2_with fail
    go_meet;exact ⟨rfl,hid rfl⟩
  case rest =>
   obtain ⟨rfl,Gj⟩:=hcut;have hw:=Gj.out.symm;subst hw;clear Gj HI HC hb;go_wp2;go_loopw [36] (fun i wr=>∃ k:Nat,k<=n/\i=.int .i64 k/\Hid (∃ cs,Blk wr w.heap.size 5 cs/\cs.size=n/\∀ j,j < k->cs[j]?=some (.int .u8 ((xs.getD (j / 8) 0 / 256 ^ (j % 8) % 256:Nat):Int)))/\Hid (Blw w wr)) (fun i _=>n - (Go.RowKit.intOf i).toNat)
   case atStart =>
    exact ⟨0,Nat.zero_le _,rfl,hid ⟨_,Blk.new w _ _,size_madeCells _ _,fun j hj=>absurd hj oM⟩,hid ((Below.refl _ _).alloc (nL _) _)⟩
   case round =>
    obtain ⟨k,hk,rfl,HC,HB⟩:=hrel;by_cases hlt:k < n
    ·have Gt:k / 8 < q:=oM
     obtain ⟨hl,b,Gb,hA,Gf,f0⟩:=z2b (HR.out.below HB.out) Gt;subst hA;obtain ⟨cs,hB,Gi,Gd⟩:=HC.out;have e:xs.getD (k / 8) 0=xs[k / 8]:=by rw [List.getD_eq_getElem?_getD,List.getElem?_eq_getElem hl];rfl
     have Ga:=HX.out _ (List.getElem_mem hl);rw [<- e] at f0 Ga;have e2:(((xs.getD (k / 8) 0:Nat):Int) / 2 ^ (k % 8 * 8)) % 256=((xs.getD (k / 8) 0 / 256 ^ (k % 8) % 256:Nat):Int):=by
      rw [show (256:Nat) ^ (k % 8)=2 ^ (k % 8 * 8) by rw [show (256:Nat)=2 ^ 8 by decide,<- Nat.pow_mul,Nat.mul_comm 8 (k % 8)]];push_cast;rfl
     have Gg:k < cs.size:=oM;have HN:Hid (∃ cs',Blk (wr.setCell ⟨w.heap.size,k,none⟩ (.int .u8 ((xs.getD (k / 8) 0 / 256 ^ (k % 8) % 256:Nat):Int))) w.heap.size 5 cs'/\cs'.size=n/\∀ j,j < k+1->cs'[j]?=some (.int .u8 ((xs.getD (j / 8) 0 / 256 ^ (j % 8) % 256:Nat):Int))):=hid ⟨_,hB.set_ k _,by simp [Gi],fun j hj=>by
      rw [Array.getElem?_setIfInBounds];by_cases e:k=j
      ·subst e
       simp [Gg]
      ·rw [if_neg e,Gd j oM]⟩
     have Ge:Hid (Blw w (wr.setCell ⟨w.heap.size,k,none⟩ (.int .u8 ((xs.getD (k / 8) 0 / 256 ^ (k % 8) % 256:Nat):Int)))):=hid (HB.out.setCell (nL _) _);have f1:wr.cell? ⟨w.heap.size,k,none⟩=some cs[k]:=by rw [hB.cell,Array.getElem?_eq_getElem Gg]
     have z1:wr.frozen? ⟨w.heap.size,k,none⟩=false:=hB.frozen _;have Gc:=hid e2;clear e Gd HC Gf hB e2;generalize cs[k]=ck at *;generalize xs.getD (k / 8) 0=z at *;generalize z / 256 ^ (k % 8) % 256=r at *;have G0:(0:Int)<=(k:Int):=oM;have G1:(k:Int) < (n:Int):=oM;have G2:(k:Int) / 8 < (q:Int):=oM;go_wp2;go_roundw
     case rel =>
      first
       | (
         refine ⟨k+1,oM,by go_num,?_,?_⟩
         ·rw [Gc.out];exact HN
         ·rw [Gc.out];exact Ge)
       | (
         repeat apply Exists.intro
         refine ⟨?_,rfl⟩;refine ⟨k+1,oM,by go_num,?_,?_⟩
         ·rw [Gc.out];exact HN
         ·rw [Gc.out];exact Ge)
     case measure=>simp [Go.RowKit.intOf];omega
    ·have Gs:k=n:=oM
     have HF:Hid (y2g w xs n (.returned (.tuple #[.slice (some ⟨w.heap.size,0,none⟩) n n,.int .i64 0])) wr):=hid (by
      obtain ⟨cs,hB,Gi,Gd⟩:=HC.out;unfold y2g;rw [if_neg Gl.out];refine ⟨_,n,n,rfl,(z3c _ _).symm,z3j hB ?_ ?_,fun ad h=>by injection h with h;subst h;exact nL _,HB.out⟩
      ·simp [u8s,z3c]
      ·intro j u hu
       have hj:j < n:=by
        have h1:=(List.getElem?_eq_some_iff.1 hu).1;simp [u8s,z3c] at h1;omega
       rw [Gd j oM,<- hu];simp [u8s,unpB,hj])
     have Gu:decide ((k:Int) < (n:Int))=false:=dF;have Gv:decide (k < n)=false:=decide_eq_false hlt;clear Gs hlt hk HC;go_wp2;go_ret2;exact HF.out
structure CS where
 dv:Bool
 cl:Nat
 g:Nat
 V:Nat
 bs:Nat->BK
def CS.cls (c:CS):Int:=if c.dv then (c.cl:Int) else -1
def CS.own (c:CS):Int:=if c.dv then 0 else -1
def CSok (cur:Nat->Nat) (ln:Nat) (c:CS):Prop:=if c.dv then ChW cur ln c.cl c.g c.V c.bs else cur (8 * ln)=z4d c.g/\0 < c.g/\c.g < 65536
structure PA where
 gs:Nat
 pl:Nat
 po:Nat
def PlcC (s K po:Nat) (cs:Nat->CS) (pcs:Array Value):Prop:=∀ k,k < K->pcs[po+k * 4]?=some (.int .i64 ((s+32 * k:Nat):Int))/\pcs[po+k * 4+1]?=some (.int .i64 (cs k).cls)/\pcs[po+k * 4+2]?=some (.int .i64 (cs k).own)/\∃ b,pcs[po+k * 4+3]?=some (.bool b)
structure Plc (a:DA) (s K:Nat) (x:PA) (cs:Nat->CS) (w:World):Prop where
 set_:∃ c,Blk w x.gs 406 #[memV a,.slice (some ⟨x.pl,x.po,none⟩) K c]
 pls:∃ pcs,Blk w x.pl 408 pcs/\PlcC s K x.po cs pcs
section
variable {a:DA} {s K:Nat} {x:PA} {cs:Nat->CS} {w w':World}
theorem Plc.chg {Z:Fp} (h:Plc a s K x cs w) (hc:Chg Z w w') (h1:¬ Z x.gs) (h2:¬ Z x.pl):Plc a s K x cs w':=by
 obtain ⟨⟨c,hs⟩,pcs,hp,hk⟩:=h;exact ⟨⟨c,hc.blk hs h1⟩,pcs,hc.blk hp h2,hk⟩
theorem Plc.below (h:Plc a s K x cs w) (hb:Blw w w'):Plc a s K x cs w':=h.chg (Chg.of_below (S:=Fp.no) hb) (fun h=>h) (fun h=>h)
theorem Plc.ne (h:Plc a s K x cs w):x.gs≠x.pl:=by
 obtain ⟨⟨c,hs⟩,pcs,hp,hk⟩:=h;exact hs.ne_ hp (by decide)
theorem Plc.lt (h:Plc a s K x cs w):x.gs < w.heap.size/\x.pl < w.heap.size:=by
 obtain ⟨⟨c,hs⟩,pcs,hp,hk⟩:=h;exact ⟨hs.lt,hp.lt⟩
theorem Plc.sets (h:Plc a s K x cs w):∃ c,w.cell? ⟨x.gs,0,none⟩=some (memV a)/\w.cell? ⟨x.gs,1,none⟩=some (.slice (some ⟨x.pl,x.po,none⟩) K c):=by
 obtain ⟨⟨c,hs⟩,pcs,hp,hk⟩:=h;exact ⟨c,hs.cell 0,hs.cell 1⟩
theorem Plc.facts (h:Plc a s K x cs w) {k:Nat} (hk:k < K):w.cell? ⟨x.pl,x.po+k * 4,none⟩=some (.int .i64 ((s+32 * k:Nat):Int))/\w.cell? ⟨x.pl,x.po+k * 4+1,none⟩=some (.int .i64 (cs k).cls)/\w.cell? ⟨x.pl,x.po+k * 4+2,none⟩=some (.int .i64 (cs k).own)/\∃ b,w.cell? ⟨x.pl,x.po+k * 4+3,none⟩=some (.bool b):=by
 obtain ⟨⟨c,hs⟩,pcs,hp,hkk⟩:=h;obtain ⟨h0,h1,h2,b,h3⟩:=hkk k hk;exact ⟨by rw [hp.cell];exact h0,by rw [hp.cell];exact h1,by rw [hp.cell];exact h2,b,by rw [hp.cell];exact h3⟩
theorem Plc.frozen (h:Plc a s K x cs w) (i:Nat):w.frozen? ⟨x.pl,i,none⟩=false:=by
 obtain ⟨⟨c,hs⟩,pcs,hp,hkk⟩:=h;exact hp.frozen i
theorem z3l {pcs:Array Value} {i j:Nat} {u v:Value} (h:pcs[i]?=some u):(pcs.setIfInBounds j v)[i]?=some (if i=j then v else u):=by
 rw [Array.getElem?_setIfInBounds];have hi:=(Array.getElem?_eq_some_iff.1 h).1;by_cases e:j=i
 ·subst e;simp [hi]
 ·rw [if_neg e,if_neg (fun h=>e h.symm)];exact h
theorem Plc.hold (h:Plc a s K x cs w) {k:Nat} (_hk:k < K) (b:Bool):Plc a s K x cs (w.setCell ⟨x.pl,x.po+k * 4+3,none⟩ (.bool b)):=by
 have Ga:=h.ne;obtain ⟨⟨c,hs⟩,pcs,hp,hkk⟩:=h;refine ⟨⟨c,hs.far Ga _⟩,_,hp.set_ _ _,fun j hj=>?_⟩;obtain ⟨h0,h1,h2,b',h3⟩:=hkk j hj;refine ⟨?_,?_,?_,if x.po+j * 4+3=x.po+k * 4+3 then b else b',?_⟩
 ·rw [z3l h0,if_neg oM]
 ·rw [z3l h1,if_neg oM]
 ·rw [z3l h2,if_neg oM]
 ·rw [z3l h3];split <;> rfl
def updC (cs:Nat->CS) (k:Nat) (c:CS):Nat->CS:=fun j=>if j=k then c else cs j
theorem Plc.claim (h:Plc a s K x cs w) {k:Nat} (_hk:k < K) (c:CS):Plc a s K x (updC cs k c) ((w.setCell ⟨x.pl,x.po+k * 4+1,none⟩ (.int .i64 c.cls)).setCell ⟨x.pl,x.po+k * 4+2,none⟩ (.int .i64 c.own)):=by
 have Ga:=h.ne;obtain ⟨⟨c',hs⟩,pcs,hp,hkk⟩:=h;refine ⟨⟨c',(hs.far Ga _).far Ga _⟩,_,(hp.set_ _ _).set_ _ _,fun j hj=>?_⟩;obtain ⟨h0,h1,h2,b',h3⟩:=hkk j hj;refine ⟨?_,?_,?_,b',?_⟩
 ·rw [z3l (z3l h0),if_neg oM,if_neg oM]
 ·rw [z3l (z3l h1),if_neg oM]
  unfold updC;by_cases e:j=k
  ·subst e;simp
  ·rw [if_neg oM,if_neg e]
 ·rw [z3l (z3l h2)]
  unfold updC;by_cases e:j=k
  ·subst e;simp
  ·rw [if_neg oM,if_neg oM,if_neg e]
 ·rw [z3l (z3l h3),if_neg oM,if_neg oM]
end
theorem y6n {a:DA} {s K:Nat} {x:PA} {cs:Nat->CS} {w:World} (h:Plc a s K x cs w) (hK:K<=128) (_hs:s<=100000) {k0:Nat} (hk0:k0 < K) :
  Calls Tryz.prog 343 #[.pointer (some ⟨x.gs,0,none⟩),.int .i64 ((s+32 * k0:Nat):Int)] w fun e w'=>e=.returned (.pointer (some ⟨x.pl,x.po+k0 * 4,none⟩))/\w=w':=by
 obtain ⟨c,_,f1⟩:=h.sets;have HP:=hid h;clear h;obtain ⟨gs,pl,po⟩:=x;dsimp only at *;generalize hv0:s+32 * k0=v0 at *;go_enter Tryz.func343,Tryz.ntmps343
 go_wp2;go_loopw [13] (fun i wr=>∃ (k:Nat),k<=k0/\i=.int .i64 k/\w=wr) (fun i _=>k0 - (RowKit.intOf i).toNat)
 case atStart=>exact ⟨0,Nat.zero_le _,rfl,rfl⟩
 case round =>
  obtain ⟨k,hk,rfl,rfl⟩:=hrel;obtain ⟨f0,f2,f3,b4,f4⟩:=HP.out.facts (k:=k) oM;dsimp only at f0 f2 f3 f4;have Ga:(0:Int)<=(k:Int):=oM;have Gb:(k:Int) < (K:Int):=oM;generalize hv:s+32 * k=v at *;by_cases hlt:k=k0
  ·subst hlt
   have hq:((v:Int) == (v0:Int))=true:=by rw [beq_iff_eq];omega
   clear hv hv0;go_wp2;go_ret;exact ⟨rfl,rfl⟩
  ·have hq:((v:Int) == (v0:Int))=false:=by rw [beq_eq_false_iff_ne];omega
   clear hv;go_wp2;go_roundw
   case rel =>
    first
     | exact ⟨k+1,oM,by go_num,trivial⟩
     | exact ⟨k+1,oM,by go_num,rfl⟩
     | (
       repeat apply Exists.intro
       refine ⟨?_,rfl⟩;exact ⟨k+1,oM,by go_num,rfl⟩)
   case measure=>simp [RowKit.intOf];omega
theorem x4l {a:DA} {s K:Nat} {x:PA} {cs:Nat->CS} {w:World} (h:Plc a s K x cs w) (hK:K<=128) (hs:s<=100000) {k0:Nat} (hk0:k0 < K) :
  Calls Tryz.prog 289 #[.pointer (some ⟨x.gs,0,none⟩),.int .i64 ((s+32 * k0:Nat):Int)] w fun e w'=>e=.returned (.int .i64 (cs k0).own)/\w=w':=by
 have HF:=hid (y6n h hK hs hk0);obtain ⟨_,_,f3,_⟩:=h.facts hk0;clear h;go_enter Tryz.func289,Tryz.ntmps289
 go_wp2_with fail
 refine HF.out.mono ?_;rintro e w1 ⟨rfl,rfl⟩;go_wp2;go_ret;exact ⟨rfl,rfl⟩
def y3r (a:DA) (s K:Nat) (x:PA) (cs:Nat->CS) (w:World) (e:Ending) (w':World):Prop:=e=.returned (.int .i64 0)/\Plc a s K x cs w'/\Chg (fun k=>k=x.pl) w w'
theorem y0o {a:DA} {s K:Nat} {x:PA} {cs:Nat->CS} {w:World} (h:Plc a s K x cs w) (hK:K<=128) (hs:s<=100000) {k0:Nat} (hk0:k0 < K) (hd:(cs k0).dv=true) (b:Bool) :
  Calls Tryz.prog 320 #[.pointer (some ⟨x.gs,0,none⟩),.int .i64 ((s+32 * k0:Nat):Int),.bool b] w (y3r a s K x cs w):=by
 have HF:=hid (y6n h hK hs hk0);obtain ⟨f0,f2,f3,b4,f4⟩:=h.facts hk0;have z4:=h.frozen (x.po+k0 * 4+3);have HN:Hid (Plc a s K x cs (w.setCell ⟨x.pl,x.po+k0 * 4+3,none⟩ (.bool b))/\Chg (fun k=>k=x.pl) w (w.setCell ⟨x.pl,x.po+k0 * 4+3,none⟩ (.bool b))):=hid ⟨h.hold hk0 b,(Chg.refl (fun k=>k=x.pl) w).setCell (p:=⟨x.pl,x.po+k0 * 4+3,none⟩) (.inl rfl) _⟩;have Ga:(cs k0).cls=((cs k0).cl:Int):=by unfold CS.cls;rw [hd];rfl
 rw [Ga] at f2;have d2:decide (((cs k0).cl:Int) < 0)=false:=dF;generalize (cs k0).cl=ccl at *;clear h Ga;go_enter Tryz.func320,Tryz.ntmps320
 go_wp2_with fail
 refine HF.out.mono ?_;rintro e w1 ⟨rfl,rfl⟩;go_wp2;go_ret;exact ⟨rfl,HN.out.1,HN.out.2⟩
def x0t (w:World) (l:List Int) (e:Ending) (w':World):Prop:=∃ A m c,e=.returned (.slice A m c)/\w'.ownsRow w.heap.size 3 1 (.slice A m c) m (z1x l)/\Blw w w'
theorem z6g (l:List Int):(z1x l).length=l.length:=by simp [z1x]
theorem y2w {a:DA} {s K:Nat} {x:PA} {cs:Nat->CS} {w:World} (h:Plc a s K x cs w) (hK:K<=128) (_hs:s<=100000) :
  Calls Tryz.prog 197 #[.pointer (some ⟨x.gs,0,none⟩)] w (x0t w ((List.range K).map fun k=>((s+32 * k:Nat):Int))):=by
 obtain ⟨c,_,f1⟩:=h.sets;have HP:=hid h;obtain ⟨i0,Gl,Gm,Gn,Gp⟩:=info_parts y4l;have Gb:Hid (Blw w w):=Below.refl _ _;have Gd:Hid (w.ownsRow w.heap.size 3 1 (.slice none 0 0) 0 (z1x [])):=World.ownsRow_nil _ _ _ _;clear h;obtain ⟨gs,pl,po⟩:=x;dsimp only at *;go_enter Tryz.func197,Tryz.ntmps197
 go_wp2;go_loopw [3,13] (fun p i wr=>∃ (k:Nat) (A1:Option Addr) (m1 c1:Nat),k<=K/\i=.int .i64 k/\p=.slice A1 m1 c1/\m1=k/\Hid (wr.ownsRow w.heap.size 3 1 (.slice A1 m1 c1) m1 (z1x ((List.range k).map fun k=>((s+32 * k:Nat):Int))))/\Hid (Blw w wr)) (fun _ i _=>K - (RowKit.intOf i).toNat)
 case atStart=>exact ⟨0,_,_,_,Nat.zero_le _,rfl,rfl,rfl,Gd,Gb⟩
 case round =>
  clear Gb Gd;obtain ⟨k,A1,m1,c1,hk,rfl,rfl,Ga,HO,H⟩:=hrel;by_cases hlt:k < K
  ·obtain ⟨f0,f2,f3,b4,f4⟩:=(HP.out.below H.out).facts (k:=k) hlt
   dsimp only at f0 f2 f3 f4;have Gr:(0:Int)<=(k:Int):=oM;have Gs:(k:Int) < (K:Int):=oM;have Gq:m1<=128:=oM;have HM:=hid Ga;have Gg:Hid (z1x ((List.range k).map fun k=>((s+32 * k:Nat):Int))++[.int .i64 ((s+32 * k:Nat):Int)]=z1x ((List.range (k+1)).map fun k=>((s+32 * k:Nat):Int))):=hid (by rw [List.range_succ,List.map_append];simp [z1x]);generalize ((s+32 * k:Nat):Int)=v at *;generalize (cs k).cls=v1 at *;generalize (cs k).own=v2 at *;have Gh:=hid H.out.size;have Gk:=hid ((HO.out.alloc (.cells #[.int .i64 v,.int .i64 v1,.int .i64 v2,.bool b4] 408)).alloc (.cells #[.int .i64 v] 3));have Gf:=hid ((H.out.alloc H.out.size (.cells #[.int .i64 v,.int .i64 v1,.int .i64 v2,.bool b4] 408)).alloc (by have:=H.out.size;simp;omega) (.cells #[.int .i64 v] 3));clear H HO Ga;go_wp2_with (first
    | (at_builtin;refine z0p _ (.tmp 17) (.tmp 20) 34 rfl rfl w.heap.size 3 i0 _ 1 8 Tryz.underlying34 Gl Gm Gn Gp rfl ?q1 (.slice A1 m1 c1) m1 (z1x ((List.range k).map fun k=>((s+32 * k:Nat):Int))) rfl Gk.out (wr.heap.size+1+1) (some ⟨wr.heap.size+1,0,none⟩) 1 1 [.int .i64 v] rfl ?q5 ?q6 ?q2 ?q3 ?q4 ?_;(case q1=>omega);(case q5=>exact z0m _ _ (by simp) _ 1 1 3 _ rfl rfl);(case q6=>(intro u hu;simp at hu;subst hu;rfl));(case q2=>(unfold maxLen;omega));(case q3=>omega);(case q4=>(have:=Gh.out;simp;omega));intro A3 n3 c3 w8 hn3 ho3 hg3 hb3;have Gi:=hid hn3;have Gj:=hid ho3;have Gc:=hid (Gf.out.trans hb3);clear hn3 ho3 hg3 hb3)
    | go_in)
   have b1:n3=k+1:=by have:=Gi.out;have:=HM.out;omega
   have Ge:Hid (w8.ownsRow w.heap.size 3 1 (.slice A3 n3 c3) n3 (z1x ((List.range (k+1)).map fun k=>((s+32 * k:Nat):Int)))):=hid (by have h:=Gj.out;rw [Gg.out] at h;exact h);go_roundw
   case rel =>
    first
     | exact ⟨k+1,_,_,_,oM,by go_num,rfl,b1,Ge,Gc⟩
     | (
       repeat apply Exists.intro
       refine ⟨?_,rfl⟩;exact ⟨k+1,_,_,_,oM,by go_num,rfl,b1,Ge,Gc⟩)
   case measure=>simp [RowKit.intOf];omega
  ·obtain rfl:K=k:=oM
   go_wp2;go_ret;exact ⟨_,_,_,rfl,HO.out,H.out⟩
end
end Go.Proofs.YtfkjjoglnmeciaaGreatDoor
