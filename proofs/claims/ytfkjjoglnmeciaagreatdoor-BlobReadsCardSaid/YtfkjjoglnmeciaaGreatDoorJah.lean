/- The walks and laws that the claim leans on, part 8. -/
import Derived.Test.YtfkjjoglnmeciaaGreatDoorJae
import Derived.Test.YtfkjjoglnmeciaaGreatDoorJag
import Derived.Lib.EndianBits
import Derived.Test.YtfkjjoglnmeciaaGreatDoorCards
import Derived.Test.YtfkjjoglnmeciaaGreatDoorTie
import Derived.ProofKit
import Derived.OpenShut
import Derived.Deep.DeepHandedRow
import Derived.Lib.LaidTab
set_option maxRecDepth 100000
set_option maxHeartbeats 16000000
namespace Crc
def nib:List Nat:=[0,274646895,549293790,820201905,1098587580,1361435347,1640403810,1905808397,2197175160,2460548119,2722870694,2987750089,3280807620,3553878443,3811616794,4084100981]
def half (x:Nat):Nat:=x / 16 ^^^ nib.getD (x % 16) 0
def step (r b:Nat):Nat:=half (half (r ^^^ b))
def reg (r:Nat) (l:List Nat):Nat:=l.foldl step r
def ones:Nat:=4294967295
def update (c:Nat) (l:List Nat):Nat:=reg (c ^^^ ones) l ^^^ ones
def sum (l:List Nat):Nat:=update 0 l
theorem nib_lt (i:Nat) (hi:i < 16):nib.getD i 0 < 4294967296:=by
 revert i;decide
theorem xor_lt {x y:Nat} (hx:x < 4294967296) (hy:y < 4294967296):x ^^^ y < 4294967296:=Nat.xor_lt_two_pow (n:=32) hx hy
theorem half_lt {x:Nat} (h:x < 4294967296):half x < 4294967296:=xor_lt (by omega) (nib_lt _ (Nat.mod_lt _ (by omega)))
theorem step_lt {r b:Nat} (hr:r < 4294967296) (hb:b < 256):step r b < 4294967296:=half_lt (half_lt (xor_lt hr (by omega)))
theorem reg_lt {r:Nat} {l:List Nat} (hr:r < 4294967296) (hl:∀ b∈l,b < 256):reg r l < 4294967296:=by
 induction l generalizing r with
 | nil=>exact hr
 | cons b l ih=>exact ih (step_lt hr (hl b (by simp))) (fun c hc=>hl c (by simp [hc]))
theorem reg_append (r:Nat) (l m:List Nat):reg r (l++m)=reg (reg r l) m:=List.foldl_append ..
theorem reg_snoc (r:Nat) (l:List Nat) (b:Nat):reg r (l++[b])=step (reg r l) b:=by rw [reg_append];rfl
theorem sum_lt {l:List Nat} (hl:∀ b∈l,b < 256):sum l < 4294967296:=xor_lt (reg_lt (by decide) hl) (by decide)
end Crc
namespace Go.Proofs.YtfkjjoglnmeciaaGreatDoor
open Go.Lib (hid)
section
open Go.RowKit
theorem step_core (r b x i t y j u z:Nat) (w:World) (e1:bits .xor .u32 (r:Int) (b:Int)=(x:Int)) (e2:bits .and .u32 (x:Int) 15=(i:Int)) (hi:i < 16)
  (hc:w.cell? ⟨1,i,none⟩=some (.int .u32 t)) (e3:bits .xor .u32 ((x:Int) / 16) (t:Int)=(y:Int))
  (e4:bits .and .u32 (y:Int) 15=(j:Int)) (hj:j < 16)
  (hd:w.cell? ⟨1,j,none⟩=some (.int .u32 u)) (e5:bits .xor .u32 ((y:Int) / 16) (u:Int)=(z:Int)) (hb:b < 256) :
  Calls Tryz.prog 321 #[.int .u32 r, .int .u8 b] w fun e w'=>e = .returned (.int .u32 z)∧w=w':=by
 go_enter Tryz.func321,Tryz.ntmps321
 go_wp2
 go_ret
 exact ⟨rfl,rfl⟩
def Tab (w:World):Prop:=∀ i,i < 16→w.cell? ⟨1,i,none⟩=some (.int .u32 ((Crc.nib.getD i 0:Nat):Int))
theorem Tab.size {w:World} (h:Tab w):1 < w.heap.size:=World.block_lt_of_cell? _ _ (h 0 (by omega))
theorem Tab.below {w w':World} (h:Tab w) (hb:Below w.heap.size w w'):Tab w':=fun i hi=>(hb.cell h.size).trans (h i hi)
theorem Tab.chg {w w':World} {S:Fp} (h:Tab w) (hb:Chg S w w') (hS:¬ S 1):Tab w':=fun i hi=>(World.cell?_of_block (w:=w) (hb.block _ h.size hS)).trans (h i hi)
theorem u32_lit15 (x:Nat) (hx:x < 4294967296):bits .and .u32 (x:Int) 15=((x % 16:Nat):Int):=by
 have h:=u32_and_nat x 15 hx (by omega)
 rw [show ((15:Nat):Int)=15 from rfl] at h
 rw [h,show (15:Nat)=2 ^ 4 - 1 from rfl,Nat.and_two_pow_sub_one_eq_mod]
theorem half_bits (x:Nat) (hx:x < 4294967296):bits .xor .u32 ((x:Int) / 16) ((Crc.nib.getD (x % 16) 0:Nat):Int)=((Crc.half x:Nat):Int):=by
 rw [show ((x:Int) / 16)=((x / 16:Nat):Int) by omega]
 exact u32_xor_nat _ _ (by omega) (Crc.nib_lt _ (Nat.mod_lt _ (by omega)))
theorem step_any (r b:Nat) (hr:r < 4294967296) (hb:b < 256) (w:World) (ht:Tab w) :
  Calls Tryz.prog 321 #[.int .u32 r, .int .u8 b] w fun e w'=>e = .returned (.int .u32 ((Crc.step r b:Nat):Int))∧w=w':=by
 have hx:r ^^^ b < 4294967296:=Crc.xor_lt hr (by omega)
 have hy:=Crc.half_lt hx
 exact step_core r b (r ^^^ b) _ _ _ _ _ _ w (u32_xor_nat r b hr (by omega)) (u32_lit15 _ hx) (Nat.mod_lt _ (by omega)) (ht _ (Nat.mod_lt _ (by omega))) (half_bits _ hx)
  (u32_lit15 _ hy) (Nat.mod_lt _ (by omega)) (ht _ (Nat.mod_lt _ (by omega))) (half_bits _ hy) hb
def u8s (l:List Nat):List Value:=l.map fun (b:Nat)=>Value.int .u8 (b:Int)
theorem u8s_at {l:List Nat} {k:Nat} {u:Value} (h:(u8s l)[k]?=some u):∃ hk:k < l.length,u = .int .u8 ((l[k]:Nat):Int):=by
 simp only [u8s,List.getElem?_map,Option.map_eq_some_iff] at h
 obtain ⟨a,ha,rfl⟩:=h
 obtain ⟨hk,rfl⟩:=List.getElem?_eq_some_iff.1 ha
 exact ⟨hk,rfl⟩
theorem take_snoc (l:List Nat) (k:Nat) (h:k < l.length):l.take (k+1)=l.take k++[l[k]]:=by
 rw [List.take_succ_eq_append_getElem h]
theorem u32_not (x:Nat) (hx:x < 4294967296):bits .xor .u32 IntKind.u32.max (x:Int)=((x ^^^ Crc.ones:Nat):Int):=by
 have h:=u32_xor_nat 4294967295 x (by omega) hx
 rw [show IntKind.u32.max=((4294967295:Nat):Int) from rfl,h,Nat.xor_comm];rfl
theorem update_any (c:Nat) (hc:c < 4294967296) (A:Option Addr) (n cap B:Nat) (l:List Nat) (w:World) (hl:∀ b∈l,b < 256) (hrd:Reads w B 1 A n (u8s l)) (hn:n≤1000000) (ht:Tab w) :
  Calls Tryz.prog 403 #[.int .u32 c, .slice A n cap] w fun e w'=>e = .returned (.int .u32 ((Crc.update c l:Nat):Int))∧w=w':=by
 have HN:=hid (show l.length=n by have:=hrd.1;simpa [u8s] using this)
 have HT:=hid ht
 have HL:=hid hl
 have HR:=hid hrd
 obtain ⟨x0,hx0⟩:∃ x0,x0=c ^^^ Crc.ones:=⟨_,rfl⟩
 have e0:bits .xor .u32 IntKind.u32.max (c:Int)=(x0:Int):=by rw [hx0];exact u32_not c hc
 have b0:x0 < 4294967296:=by rw [hx0];exact Crc.xor_lt hc (by decide)
 have HX:=hid hx0
 clear ht hl hrd hx0
 go_enter Tryz.func403,Tryz.ntmps403
 go_wp2
 clear e0
 go_loop [5,12] (fun r i=>∃ k:Nat,k≤n∧i = .int .i64 k∧r = .int .u32 ((Crc.reg x0 (l.take k):Nat):Int)) (fun _ i=>n - (RowKit.intOf i).toNat)
 case atStart=>exact ⟨0,Nat.zero_le _,rfl,rfl⟩
 case round =>
  obtain ⟨k,hk,rfl,rfl⟩:=hrel
  have hreg:Crc.reg x0 (l.take k) < 4294967296:=Crc.reg_lt b0 (fun b hb=>HL.out b (List.mem_of_mem_take hb))
  by_cases hlt:k < n
  ·obtain ⟨ad,u,hA,_,hu,hcell⟩:=HR.out.at_ hlt
   obtain ⟨hkl,rfl⟩:=u8s_at hu
   have HS:Hid (Crc.step (Crc.reg x0 (l.take k)) l[k]=Crc.reg x0 (l.take (k+1))):=by
    rw [take_snoc l k hkl,Crc.reg_snoc];rfl
   have hb:l[k] < 256:=HL.out _ (List.getElem_mem hkl)
   clear hu
   subst hA
   generalize l[k]=b at *
   generalize hr:Crc.reg x0 (l.take k)=r at *
   have HRr:=hid hr
   clear hr
   go_wp2_with (go_at_call 321;refine (step_any _ _ hreg hb _ HT.out).mono ?_;rintro e w' ⟨rfl,rfl⟩)
   go_round
   case rel=>exact ⟨k+1,by omega,by go_num,by rw [HS.out]⟩
   case measure=>simp [RowKit.intOf];omega
  ·have hkn:k=n:=by omega
   have HE:Hid (Crc.reg x0 (l.take k) ^^^ Crc.ones=Crc.update c l):=by
    show _=_
    rw [List.take_of_length_le (by have:=HN.out;omega),HX.out];rfl
   have e9:=u32_not _ hreg
   generalize Crc.reg x0 (l.take k) ^^^ Crc.ones=z at *
   generalize Crc.reg x0 (l.take k)=r at *
   clear hkn
   go_wp2
   go_ret
   exact ⟨by rw [← HE.out];rfl,rfl⟩
theorem sum_any (A:Option Addr) (n cap B:Nat) (l:List Nat) (w:World) (hl:∀ b∈l,b < 256) (hrd:Reads w B 1 A n (u8s l)) (hn:n≤1000000) (ht:Tab w) :
  Calls Tryz.prog 395 #[.slice A n cap] w fun e w'=>e = .returned (.int .u32 ((Crc.sum l:Nat):Int))∧w=w':=by
 have HL:=hid hl
 have HR:=hid hrd
 have HT:=hid ht
 clear hl hrd ht
 go_enter Tryz.func395,Tryz.ntmps395
 have h:=update_any 0 (by omega) A n cap B l w HL.out HR.out hn HT.out
 rw [show ((0:Nat):Int)=0 from rfl] at h
 have HC:=hid h
 clear h
 go_wp2_with (go_at_call 403;refine HC.out.mono ?_;rintro e w' ⟨rfl,rfl⟩)
 go_ret
 exact ⟨rfl,rfl⟩
end
section
open Go.RowKit
def pOff (p:Nat):Nat:=p % 4294967296 * 8
def pGen (p:Nat):Nat:=p / 4294967296 % 65536
def pKind (p:Nat):Nat:=p / 281474976710656 % 256
def pAt (p k:Nat):Nat:=if p=0∨60≤k then 0 else pOff p+8 * k
def pMk (off gen kind:Nat):Nat:=off / 8+gen * 4294967296+kind * 281474976710656
theorem pMk_off {off gen kind:Nat} (h8:off % 8=0) (ho:off < 34359738368):pOff (pMk off gen kind)=off:=by
 unfold pOff pMk;omega
theorem pMk_gen {off gen kind:Nat} (ho:off < 34359738368) (hg:gen < 65536):pGen (pMk off gen kind)=gen:=by
 unfold pGen pMk;omega
theorem pMk_kind {off gen kind:Nat} (ho:off < 34359738368) (hg:gen < 65536) (hk:kind < 256):pKind (pMk off gen kind)=kind:=by
 unfold pKind pMk;omega
theorem pMk_lt {off gen kind:Nat} (ho:off < 34359738368) (hg:gen < 65536) (hk:kind < 128):pMk off gen kind < 18446744073709551616∧pMk off gen kind / 72057594037927936=0:=by
 unfold pMk;omega
theorem pMk_ne {off gen kind:Nat} (hg:0 < gen):pMk off gen kind≠0:=by
 unfold pMk;omega
theorem pMk_parts {p:Nat} (h:p / 72057594037927936=0):p=pMk (pOff p) (pGen p) (pKind p):=by
 unfold pMk pOff pGen pKind;omega
section
theorem off_any (p:Nat) (w:World):Calls Tryz.prog 135 #[.int .u64 (p:Int)] w fun e w'=>e = .returned (.int .u64 (pOff p:Int))∧w=w':=by
 have e1:IntKind.u32.wrap (p:Int)=((p % 4294967296:Nat):Int):=by rw [IntKind.wrap_u32];omega
 have e2:IntKind.u64.wrap ((p % 4294967296:Nat):Int)=((p % 4294967296:Nat):Int):=by rw [IntKind.wrap_u64];omega
 have HP:Hid ((pOff p:Int)=((p % 4294967296:Nat):Int) * 8):=hid (by unfold pOff;omega)
 have h1:p % 4294967296 < 4294967296:=by omega
 generalize pOff p=r at *
 generalize p % 4294967296=q at *
 go_enter Tryz.func135,Tryz.ntmps135
 go_wp2
 go_ret
 exact ⟨by rw [HP.out];rfl,rfl⟩
theorem gen_any (p:Nat) (w:World):Calls Tryz.prog 199 #[.int .u64 (p:Int)] w fun e w'=>e = .returned (.int .u16 (pGen p:Int))∧w=w':=by
 have e1:IntKind.u16.wrap ((p:Int) / 4294967296)=(pGen p:Int):=by unfold pGen;rw [IntKind.wrap_u16];omega
 generalize pGen p=r at *
 go_enter Tryz.func199,Tryz.ntmps199
 go_wp2
 go_ret
 exact ⟨rfl,rfl⟩
theorem kind_any (p:Nat) (w:World):Calls Tryz.prog 150 #[.int .u64 (p:Int)] w fun e w'=>e = .returned (.int .u8 (pKind p:Int))∧w=w':=by
 have e1:IntKind.u8.wrap ((p:Int) / 281474976710656)=(pKind p:Int):=by unfold pKind;rw [IntKind.wrap_u8];omega
 generalize pKind p=r at *
 go_enter Tryz.func150,Tryz.ntmps150
 go_wp2
 go_ret
 exact ⟨rfl,rfl⟩
theorem nil_any (p:Nat) (w:World):Calls Tryz.prog 22 #[.int .u64 (p:Int)] w fun e w'=>e = .returned (.bool (decide (p=0)))∧w=w':=by
 have e1:((p:Int) == 0)=decide (p=0):=by
  by_cases h:p=0
  ·subst h;rfl
  ·rw [decide_eq_false h,beq_eq_false_iff_ne];omega
 generalize decide (p=0)=b at *
 go_enter Tryz.func22,Tryz.ntmps22
 go_wp2
 go_ret
 exact ⟨rfl,rfl⟩
theorem at_any (p k:Nat) (hk:k≤1000000000) (w:World):Calls Tryz.prog 49 #[.int .u64 (p:Int), .int .i64 (k:Int)] w fun e w'=>e = .returned (.int .u64 (pAt p k:Int))∧w=w':=by
 have HN:=hid (nil_any p w)
 have HO:=hid (off_any p w)
 have hk0:(0:Int)≤(k:Int):=by omega
 by_cases h0:p=0
 ·have hr:(pAt p k:Int)=0:=by unfold pAt;rw [if_pos (.inl h0)];rfl
  rw [hr]
  rw [decide_eq_true h0] at HN
  clear hr h0
  go_enter Tryz.func49,Tryz.ntmps49
  go_wp2_with (go_at_call 22;refine HN.out.mono ?_;rintro e w1 ⟨rfl,rfl⟩)
  go_ret
  exact ⟨rfl,rfl⟩
 ·rw [decide_eq_false h0] at HN
  by_cases h1:60≤k
  ·have hr:(pAt p k:Int)=0:=by unfold pAt;rw [if_pos (.inr h1)];rfl
   have d1:decide (60≤(k:Int))=true:=decide_eq_true (by omega)
   rw [hr]
   clear hr h0
   go_enter Tryz.func49,Tryz.ntmps49
   go_wp2_with (go_at_call 22;refine HN.out.mono ?_;rintro e w1 ⟨rfl,rfl⟩)
   go_ret
   exact ⟨rfl,rfl⟩
  ·have hr:(pAt p k:Int)=(pOff p:Int)+8 * (k:Int):=by unfold pAt;rw [if_neg (by omega)];omega
   have d1:decide (60≤(k:Int))=false:=decide_eq_false (by omega)
   have u1:IntKind.u64.wrap (k:Int)=(k:Int):=by rw [IntKind.wrap_u64];omega
   have ho:pOff p≤34359738368:=by unfold pOff;omega
   have HR:=hid hr
   clear hr h0
   generalize pOff p=r at *
   generalize pAt p k=z at *
   go_enter Tryz.func49,Tryz.ntmps49
   go_wp2_with (first
    | (go_at_call 22;refine HN.out.mono ?_;rintro e w1 ⟨rfl,rfl⟩)
    | (go_at_call 135;refine HO.out.mono ?_;rintro e w1 ⟨rfl,rfl⟩))
   go_ret
   exact ⟨by rw [HR.out];rfl,rfl⟩
theorem make_or (o g k:Nat) (ho:o < 4294967296) (hg:g < 65536) (hk:k < 256):bits .or .u64 (bits .or .u64 (o:Int) ((g:Int) * 4294967296)) ((k:Int) * 281474976710656)=((o+g * 4294967296+k * 281474976710656:Nat):Int):=by
 rw [Go.u64_or32 (y:=(o:Int)) (x:=(g:Int) * 4294967296) (by omega) (by omega) (by omega) (by omega) (by omega)]
 rw [Go.u64_or48 (y:=(o:Int)+(g:Int) * 4294967296) (x:=(k:Int) * 281474976710656) (by omega) (by omega) (by omega) (by omega) (by omega)]
 omega
theorem ptrMake_any (off gen kind:Nat) (h8:off % 8=0) (h0:0 < off) (ho:off≤1000000000) (hg0:0 < gen) (hg:gen < 65536) (hk0:0 < kind) (hk:kind < 128) (w:World) :
  Calls Tryz.prog 300 #[.int .u64 (off:Int), .int .u16 (gen:Int), .int .u8 (kind:Int)] w fun e w'=>e = .returned (.tuple #[.int .u64 (pMk off gen kind:Int), .int .i64 0])∧w=w':=by
 have e1:((off:Int) == 0)=false:=by rw [beq_eq_false_iff_ne];omega
 have e2:(off:Int) % 8=0:=by omega
 have e3:((gen:Int) == 0)=false:=by rw [beq_eq_false_iff_ne];omega
 have e4:((kind:Int) == 0)=false:=by rw [beq_eq_false_iff_ne];omega
 have e5:decide (127 < (kind:Int))=false:=decide_eq_false (by omega)
 have e6:decide (34359738360 < (off:Int))=false:=decide_eq_false (by omega)
 obtain ⟨o8,ho8⟩:∃ o8,off / 8=o8:=⟨_,rfl⟩
 have e7:(off:Int) / 8=(o8:Int):=by omega
 have e8:IntKind.u64.wrap (gen:Int)=(gen:Int):=by rw [IntKind.wrap_u64];omega
 have e9:IntKind.u64.wrap (kind:Int)=(kind:Int):=by rw [IntKind.wrap_u64];omega
 have ea:bits .or .u64 (bits .or .u64 (o8:Int) ((gen:Int) * 4294967296)) ((kind:Int) * 281474976710656)=(pMk off gen kind:Int):=by
  rw [make_or _ _ _ (by omega) hg (by omega)];unfold pMk;rw [ho8]
 generalize pMk off gen kind=r at *
 go_enter Tryz.func300,Tryz.ntmps300
 go_wp2
 go_ret2
 exact ⟨rfl,rfl⟩
end
end
section
open Go.RowKit Go.Maps
def SetD (D:DataW Unit) (l:List Nat):Prop:=∀ x,D.atKey (kU x) (.lit (.bool false)) = .lit (.bool (decide (x∈l)))
theorem SetD.nil:SetD (.map []) []:=fun x=>by simp [DataW.atKey]
theorem kU_ne {x y:Nat} (h:x≠y):kU x≠kU y:=fun e=>h (kU_inj e)
theorem kU_key (x:Nat):WideAt.IsKeyLit (kU x):=by simp [WideAt.IsKeyLit]
theorem SetD.put {D:DataW Unit} {l:List Nat} (h:SetD D l) (hm:IsMap D) (o:Nat):SetD (D.put (kU o) (.lit (.bool true))) (o :: l):=fun x=>by
 by_cases hx:x=o
 ·subst hx;rw [atKey_put_same hm (kU_key x)];simp
 ·rw [atKey_put_other (kU_ne hx),h x];simp [hx]
theorem keyU {x:Nat} (h:x < 18446744073709551616):keyOf Tryz.prog 32 (.int .u64 (x:Int))=some (kU x):=keyOf_int_mk Tryz.underlying32 (wf_u64_nat h)
theorem keyedU:Keyed Tryz.prog 32:=int_keyed Tryz.underlying32
theorem plainElem_bool_inv {P:Program} {e:TypeId} (he:P.underlying e=some .bool) {v:Value} {z:DataW Unit × List MemPlace} (h:plainElem P e v=some z):∃ b,v = .bool b∧z=(.lit (.bool b),[]):=by
 cases v <;> simp [plainElem,he] at h
 rename_i b
 exact ⟨b,rfl,h.symm⟩
def frStep (st:List Nat × List Nat) (o:Nat):List Nat × List Nat:=if o∈st.1 then st else (o :: st.1,st.2++[o])
def fr (seen offs:List Nat):List Nat × List Nat:=offs.foldl frStep (seen,[])
end
section
open Go.RowKit
def RetPow (l:Nat) (w:World) (e:Ending) (w':World):Prop:=∃ M:Nat,e = .returned (.int .u64 (M:Int))∧1≤M∧M≤2 * l∧w'=w
theorem nextPow_any (l:Nat) (h0:0 < l) (h:l≤1000000) (w:World) :
  Calls Tryz.prog 303 #[.int .i64 (l:Int)] w (RetPow l w):=by
 have HLn:=hid (len_any l w h)
 have e1:IntKind.u64.wrap (l:Int)=(l:Int):=by rw [IntKind.wrap_u64];omega
 obtain ⟨hb,hk⟩:=bitLen_two l h0 h
 have h1:1≤2 ^ Lib.bitLen l:=Nat.two_pow_pos _
 generalize Lib.bitLen l=k at *
 obtain ⟨M,hM⟩:∃ M:Nat,M=2 ^ k:=⟨_,rfl⟩
 have hp:IntKind.u64.wrap ((2:Int) ^ k)=(M:Int):=by
  rw [IntKind.wrap_u64,show ((2:Int) ^ k)=((2 ^ k:Nat):Int) by push_cast;rfl,← hM]
  omega
 rw [← hM] at hb h1
 clear hM
 go_enter Tryz.func303,Tryz.ntmps303
 go_wp2_with (first
  | (go_at_call 109;refine HLn.out.mono ?_;rintro e w' ⟨rfl,rfl⟩))
 go_ret
 exact ⟨M,rfl,h1,hb,rfl⟩
structure RanI (w wr:World) (g:Nat) (xs:List Nat) (sz s:Nat):Prop where
 row:SortI w wr g xs sz
 new:w.heap.size≤s
 ne:s≠g
 ran:∃ z:Nat,z < 18446744073709551616∧Blk wr s 412 #[.int .u64 (z:Int)]
theorem RanI.next {w wr:World} {g sz s:Nat} {xs:List Nat} (h:RanI w wr g xs sz s) (v:Nat) (hv:v < 18446744073709551616):RanI w ((wr.setCell ⟨s,0,none⟩ (.int .u64 (v:Int))).drewN 3) g xs sz s:=by
 obtain ⟨z,_,hB⟩:=h.ran
 exact ⟨(h.row.other h.new h.ne _).drewN 3,h.new,h.ne,v,hv,(hB.set_ 0 _).drewN 3⟩
theorem RanI.swap {w wr:World} {g sz s:Nat} {xs:List Nat} (h:RanI w wr g xs sz s) {i j x y:Nat} (hi:i < xs.length) (hj:j < xs.length) (hx:wr.cell? ⟨g,i,none⟩=some (.int .u64 (x:Int))) (hy:wr.cell? ⟨g,j,none⟩=some (.int .u64 (y:Int))) :
  RanI w (((wr.setCell ⟨g,i,none⟩ (.int .u64 (y:Int))).setCell ⟨g,j,none⟩ (.int .u64 (x:Int)))).drew g xs sz s:=by
 obtain ⟨z,hz,hB⟩:=h.ran
 exact ⟨(h.row.swap hi hj hx hy).drew,h.new,h.ne,z,hz,((hB.far h.ne _).far h.ne _).drew⟩
theorem RanI.start {w:World} {g sz:Nat} {xs:List Nat} (h:SortI w w g xs sz) (l:Nat) (hl:l < 18446744073709551616):RanI w (w.alloc (.cells #[.int .u64 (l:Int)] 412)) g xs sz w.heap.size:=by
 have hg:g < w.heap.size:=by obtain ⟨cs,ys,h1,_⟩:=h;exact h1.lt
 refine ⟨?_,Nat.le_refl _,by omega,l,hl,Blk.new _ _ _⟩
 obtain ⟨cs,ys,h1,h2,h3,h4,h5⟩:=h
 exact ⟨cs,ys,h1.alloc _,h2,h3,h4,h5.below ((Below.refl _ w).alloc (Nat.le_refl _) _)⟩
theorem breakP_any (g n cap sz a l:Nat) (xs:List Nat) (w:World) (h:SortI w w g xs sz) (hl:xs.length=n) (hb:a+l≤n) (h8:8≤l) (hn:n≤1000000) (hc:n≤cap) (hcm:cap≤9223372036854775807) :
  Calls Tryz.prog 253 #[.slice (some ⟨g,0,none⟩) n cap, .int .i64 (a:Int), .int .i64 ((a+l:Nat):Int)] w (RetSort w g xs sz):=by
 have HR:=hid (RanI.start h l (by omega))
 have HL:=hid hl
 have HP:=hid (nextPow_any l (by omega) (by omega))
 have e1:IntKind.u64.wrap (l:Int)=(l:Int):=by rw [IntKind.wrap_u64];omega
 clear h hl
 go_enter Tryz.func253,Tryz.ntmps253
 go_wp2_with fail
 rw [show ((a:Int)+(l:Int) - (a:Int))=(l:Int) by omega]
 refine (HP.out _).mono ?_
 rintro e w1 ⟨M,rfl,hM1,hM2,rfl⟩
 clear HP
 generalize w.alloc (.cells #[.int .u64 (l:Int)] 412)=W at *
 go_wp2_with fail
 go_loopw [9] (fun vi wr=>∃ P:Nat,vi = .int .i64 (P:Int)∧a+l / 4 * 2≤P+1∧P≤a+l / 4 * 2+2∧Hid (RanI w wr g xs sz w.heap.size)) (fun vi _=>a+l / 4 * 2+3 - (RowKit.intOf vi).toNat)
 case atStart=>exact ⟨a+l / 4 * 2 - 1,by congr 1;omega,by omega,by omega,HR⟩
 case round =>
  clear HR
  obtain ⟨P,rfl,hP1,hP2,HR⟩:=hrel
  by_cases hP:P≤a+l / 4 * 2+1
  ·have e2:decide ((P:Int)≤(a:Int)+(l:Int) / 4 * 2+1)=true:=decide_eq_true (by omega)
   obtain ⟨z,hz,hB⟩:=HR.out.ran
   have HN:=hid (next_any w.heap.size z hz wr (hB.cell 0) (hB.frozen 0))
   have e3:(P:Int) < (n:Int):=by omega
   clear hB hz
   go_wp2_with fail
   refine HN.out.mono ?_
   rintro e w2 ⟨R,hR,rfl,rfl⟩
   obtain ⟨O,hO⟩:∃ O:Nat,O=R &&& (M - 1):=⟨_,rfl⟩
   have lO:O≤M - 1:=by rw [hO];exact Nat.and_le_right
   have eAnd:bits .and .u64 (R:Int) ((M:Int) - 1)=(O:Int):=by
    rw [show ((M:Int) - 1)=((M - 1:Nat):Int) by omega,bits_and_u64_nat _ _ hR (by omega),hO]
   have HR2:=hid (HR.out.next R hR)
   clear hO HN HR
   generalize (wr.setCell ⟨w.heap.size,0,none⟩ (.int .u64 (R:Int))).drewN 3=wr at *
   by_cases hLO:l≤O
   ·have e4:decide ((l:Int)≤(O:Int))=true:=decide_eq_true (by omega)
    obtain ⟨K,hK⟩:∃ K:Nat,K=a+(O - l):=⟨_,rfl⟩
    have k1:(0:Int)≤(a:Int)+((O:Int) - (l:Int)):=by omega
    have k2:(a:Int)+((O:Int) - (l:Int)) < (n:Int):=by omega
    have k3:((a:Int)+((O:Int) - (l:Int))).toNat=K:=by omega
    clear hK
    go_wp2_with fail
    obtain ⟨x1,c1,z1⟩:=HR2.out.row.at_ (i:=P) (by have:=HL.out;omega)
    obtain ⟨x2,c2,z2⟩:=HR2.out.row.at_ (i:=K) (by have:=HL.out;omega)
    obtain ⟨x3,c3⟩:=HR2.out.row.mid (i:=P) (j:=K) (by have:=HL.out;omega) (.int .u64 (x2:Int))
    have H1:=hid (HR2.out.swap (by have:=HL.out;omega) (by have:=HL.out;omega) c1 c2)
    clear HR2
    by_cases hEq:P=K
    ·subst hEq
     obtain rfl:x1=x2:=by
      rw [c1] at c2
      simp at c2
      omega
     go_region
     clear c1 c2 c3 z1 z2
     go_wp2_with fail
     go_roundw
     case rel=>exact ⟨P+1,by go_num,by omega,by omega,H1⟩
     case measure=>simp [RowKit.intOf];omega
    ·go_region
     clear c1 c2 c3 z1 z2
     go_wp2_with fail
     go_roundw
     case rel=>exact ⟨P+1,by go_num,by omega,by omega,H1⟩
     case measure=>simp [RowKit.intOf];omega
   ·have e4:decide ((l:Int)≤(O:Int))=false:=decide_eq_false (by omega)
    obtain ⟨K,hK⟩:∃ K:Nat,K=a+O:=⟨_,rfl⟩
    have k1:(0:Int)≤(a:Int)+(O:Int):=by omega
    have k2:(a:Int)+(O:Int) < (n:Int):=by omega
    have k3:((a:Int)+(O:Int)).toNat=K:=by omega
    clear hK
    go_wp2_with fail
    obtain ⟨x1,c1,z1⟩:=HR2.out.row.at_ (i:=P) (by have:=HL.out;omega)
    obtain ⟨x2,c2,z2⟩:=HR2.out.row.at_ (i:=K) (by have:=HL.out;omega)
    obtain ⟨x3,c3⟩:=HR2.out.row.mid (i:=P) (j:=K) (by have:=HL.out;omega) (.int .u64 (x2:Int))
    have H1:=hid (HR2.out.swap (by have:=HL.out;omega) (by have:=HL.out;omega) c1 c2)
    clear HR2
    by_cases hEq:P=K
    ·subst hEq
     obtain rfl:x1=x2:=by
      rw [c1] at c2
      simp at c2
      omega
     go_region
     clear c1 c2 c3 z1 z2
     go_wp2_with fail
     go_roundw
     case rel=>exact ⟨P+1,by go_num,by omega,by omega,H1⟩
     case measure=>simp [RowKit.intOf];omega
    ·go_region
     clear c1 c2 c3 z1 z2
     go_wp2_with fail
     go_roundw
     case rel=>exact ⟨P+1,by go_num,by omega,by omega,H1⟩
     case measure=>simp [RowKit.intOf];omega
  ·have e2:decide ((P:Int)≤(a:Int)+(l:Int) / 4 * 2+1)=false:=decide_eq_false (by omega)
   go_wp2_with fail
   go_end0
   exact ⟨rfl,HR.out.row⟩
end
section
open Go.ChangeShapes Go.WideShapes Go.ChangeAt Go.RowKit
theorem ownK:ownKnob Tryz.prog.godebug=none:=by kernel_rfl
theorem laidOut:laidOutB Tryz.prog=true:=by kernel_rfl
theorem gTab : Tryz.prog.globalNamed "bedrock/crc.nibbles" = some 1 := by kernel_rfl
theorem gTabType:(Tryz.prog.globals[1]?).map (·.type)=some 470:=by kernel_rfl
theorem cellsTab:Tryz.prog.cellsOf 470=16:=by kernel_rfl
theorem cellsU32:Tryz.prog.cellsOf 324=1:=by kernel_rfl
def laidList : List (String × DataW Unit) := [("bedrock/crc.nibbles", Rows.laid_bedrock_crc_nibbles), ("bedrock/sizeclass.payload", Rows.laid_bedrock_sizeclass_payload)]
theorem table {W:World} (h:laidMetH Tryz.prog laidList W):Tab W:=by
 have ht : Lib.TabIs Tryz.prog W "bedrock/crc.nibbles" .u32 (Crc.nib.map fun (n : Nat) => (n : Int)) :=
  Lib.tabIs_of_head (rest := [("bedrock/sizeclass.payload", Rows.laid_bedrock_sizeclass_payload)]) gTab gTabType Tryz.underlying470 Tryz.underlying324 cellsU32 cellsTab h
 intro i hi
 have:=ht.cell gTab i (by simpa [Crc.nib] using hi)
 rw [this]
 have hl:i < Crc.nib.length:=by simpa [Crc.nib] using hi
 simp [List.getD,hl]
def nibObj:Obj→Obj
 | .cells _ t frozen => .cells (Crc.nib.map fun (n:Nat)=>Value.int .u32 (n:Int)).toArray t frozen
 | o=>o
def payObj:Obj→Obj
 | .cells _ t frozen => .cells #[.int .i64 3, .int .i64 7, .int .i64 15, .int .i64 31, .int .i64 60] t frozen
 | o=>o
noncomputable def laidWorld (os:Os):World :=
 { World.holding Tryz.prog os ⟨#[],#[],[]⟩ with heap:=((World.holding Tryz.prog os ⟨#[],#[],[]⟩).heap.modify 1 nibObj).modify 0 payObj }
section
variable {H:Type} {enc:TypeId × Value→H} {W:World} {b0 base:Nat} {sp:Nat→Bool} {held:Bool} {v:Value} {d:DataW H} {p:List MemPlace} {r:Reach}
end
end
section
open Go.RowKit
def sealB (x:Nat):List Nat:=[x % 256,x / 256 % 256,x / 65536 % 256,x / 16777216 % 256]
def sealW (x:Nat):Nat:=Crc.sum (sealB x) * 4294967296+x
theorem sealB_lt (x:Nat):∀ b∈sealB x,b < 256:=by
 intro b hb
 simp only [sealB,List.mem_cons,List.not_mem_nil,or_false] at hb
 omega
theorem sealW_lt (x:Nat) (hx:x < 4294967296):sealW x < 18446744073709551616:=by
 have:=Crc.sum_lt (sealB_lt x)
 unfold sealW
 omega
theorem seal_or (s x:Nat) (hs:s < 4294967296) (hx:x < 4294967296):bits .or .u64 ((s:Int) * 4294967296) (x:Int)=((s * 4294967296+x:Nat):Int):=by
 rw [show (s:Int) * 4294967296=((s * 4294967296:Nat):Int) by omega]
 rw [u64_or_nat _ _ (by omega) (by omega)]
 congr 1
 have:=Nat.two_pow_add_eq_or_of_lt (i:=32) (b:=x) hx s
 rw [Nat.mul_comm s,show (4294967296:Nat)=2 ^ 32 from rfl,← this]
theorem seal_any (x:Nat) (hx:x < 4294967296) (w:World) (ht:Tab w) :
  Calls Tryz.prog 374 #[.int .u32 (x:Int)] w fun e w'=>e = .returned (.int .u64 (sealW x:Int))∧Below w.heap.size w w':=by
 have HS:=hid (fun (W:World) (hW:Below w.heap.size w W) (B:Nat) h=>sum_any (some ⟨w.heap.size,0,none⟩) 4 4 B (sealB x) W (sealB_lt x) h (by omega) (ht.below hW))
 have hsl:=Crc.sum_lt (sealB_lt x)
 have HB:Hid (sealB x=[x % 256,x / 256 % 256,x / 65536 % 256,x / 16777216 % 256]):=rfl
 have e0:IntKind.u8.wrap (x:Int)=((x % 256:Nat):Int):=by rw [IntKind.wrap_u8];omega
 have e1:IntKind.u8.wrap ((x:Int) / 256)=((x / 256 % 256:Nat):Int):=by rw [IntKind.wrap_u8];omega
 have e2:IntKind.u8.wrap ((x:Int) / 65536)=((x / 65536 % 256:Nat):Int):=by rw [IntKind.wrap_u8];omega
 have e3:IntKind.u8.wrap ((x:Int) / 16777216)=((x / 16777216 % 256:Nat):Int):=by rw [IntKind.wrap_u8];omega
 have e4:bits .or .u64 ((Crc.sum (sealB x):Int) * 4294967296) (x:Int)=(sealW x:Int):=seal_or _ x hsl hx
 generalize sealW x=z at *
 generalize Crc.sum (sealB x)=s at *
 generalize sealB x=l at *
 generalize x % 256=b0 at *
 generalize x / 256 % 256=b1 at *
 generalize x / 65536 % 256=b2 at *
 generalize x / 16777216 % 256=b3 at *
 have u1:IntKind.u64.wrap (s:Int)=(s:Int):=by rw [IntKind.wrap_u64];omega
 have u2:IntKind.u64.wrap (x:Int)=(x:Int):=by rw [IntKind.wrap_u64];omega
 have u3:IntKind.u64.wrap ((s:Int) * 4294967296)=(s:Int) * 4294967296:=by rw [IntKind.wrap_u64];omega
 clear ht
 go_enter Tryz.func374,Tryz.ntmps374
 go_wp2_with (go_at_call 395;refine (HS.out _ ((Below.refl _ _).alloc (Nat.le_refl _) _) (w.heap.size+1) (by rw [HB.out];exact row_reads_at w _ rfl _ 4 1 5 _ rfl rfl)).mono ?_;rintro e w1 ⟨rfl,rfl⟩)
 go_ret
 exact ⟨rfl,(Below.refl _ _).alloc (Nat.le_refl _) _⟩
end
section
open Go.RowKit
def ulogCells (a:DA) (s n:Nat):Array Value:=#[memV a, .int .u64 ((64 * s:Nat):Int), .int .i64 (n:Int)]
theorem undoOpen_any {a:DA} {L T:Nat} {w:World} {S:Fp} {cur:Nat→Nat} {F:Nat} (h:Dev a L T w S cur F) (s n:Nat) (hn:2≤n) (hs:s+n≤L) :
  Calls Tryz.prog 178 #[memV a, .int .i64 (s:Int), .int .i64 (n:Int)] w fun e w'=>e = .returned (.tuple #[.pointer (some ⟨w.heap.size,0,none⟩), .int .i64 0])∧w'=w.alloc (.cells (ulogCells a s n) 330):=by
 obtain ⟨ls,exe,per,cs,lsC,hdc,hnt⟩:=h
 have hL:=hdc.hL
 obtain ⟨f0,f2,_,_,_⟩:=hdc.facts (j:=0) (by omega)
 clear hdc hnt
 have hq:=eqMem (some ⟨a.th 0,0,none⟩)
 have hmS:=methSize (some ⟨a.th 0,0,none⟩)
 unfold memV ulogCells memV
 have e1:decide ((s:Int) < 0)=false:=decide_eq_false (by omega)
 have e2:decide ((n:Int) < 2)=false:=decide_eq_false (by omega)
 have u1:IntKind.u64.wrap ((L:Int) * 64)=(L:Int) * 64:=by rw [IntKind.wrap_u64];omega
 have u2:IntKind.u64.wrap (n:Int)=(n:Int):=by rw [IntKind.wrap_u64];omega
 have u3:IntKind.u64.wrap (s:Int)=(s:Int):=by rw [IntKind.wrap_u64];omega
 have u4:IntKind.u64.wrap ((L:Int) - (n:Int))=(L:Int) - (n:Int):=by rw [IntKind.wrap_u64];omega
 have u5:IntKind.u64.wrap ((s:Int) * 64)=((64 * s:Nat):Int):=by rw [IntKind.wrap_u64];omega
 have d1:((L:Int) * 64).tdiv 64=(L:Int):=by rw [Int.mul_tdiv_cancel _ (by decide)]
 have e3:decide ((L:Int) < (n:Int))=false:=decide_eq_false (by omega)
 have e4:decide ((L:Int) - (n:Int) < (s:Int))=false:=decide_eq_false (by omega)
 go_enter Tryz.func178,Tryz.ntmps178
 go_wp2
 go_ret2
 exact ⟨rfl,rfl⟩
theorem redoOpen_any {a:DA} {L T:Nat} {w:World} {S:Fp} {cur:Nat→Nat} {F:Nat} (h:Dev a L T w S cur F) (s n:Nat) (hn:26≤n) (hs:s+n≤L) :
  Calls Tryz.prog 177 #[memV a, .int .i64 (s:Int), .int .i64 (n:Int)] w fun e w'=>e = .returned (.tuple #[.pointer (some ⟨w.heap.size,0,none⟩), .int .i64 0])∧w'=w.alloc (.cells (logCells a s n) 353):=by
 have HH:=hid (handle_any h s n hn hs)
 clear h
 unfold memV at *
 go_enter Tryz.func177,Tryz.ntmps177
 go_wp2_with (go_at_call 169;refine HH.out.mono ?_;rintro e w1 ⟨rfl,rfl⟩)
 go_ret2
 exact ⟨rfl,rfl⟩
end
section
open Go.RowKit
theorem aheadLoad (p : Addr) (w : World) : (nilAhead 640 58 (.pointer (some p)) "Load").run Tryz.prog w = .ok (some false) w := by kernel_rfl
theorem load_at {a:DA} {L T:Nat} {w:World} {S:Fp} {cur:Nat→Nat} {F:Nat} (h:Dev a L T w S cur F) (off v:Nat) (h8:off % 8=0) (hlt:off < 64 * L) (hv:cur (off / 8)=v) (W:World) (hW:Below w.heap.size w W) :
  Calls Tryz.prog 65 #[.pointer (some ⟨a.th 0,0,none⟩), .int .u64 (off:Int)] W fun e w'=>e = .returned (.int .u64 (v:Int))∧W=w':=by
 obtain ⟨s,exe,per,cs,ls,hdc,_⟩:=h.below hW
 subst hv
 exact load_any hdc (by omega) off h8 hlt
theorem look_idle {a:DA} {L T:Nat} {w:World} {S:Fp} {cur:Nat→Nat} {F:Nat} (h:Dev a L T w S cur F) (g s n:Nat) (hB:Blk w g 353 (logCells a s n)) (hs:s < L) (h0:cur (8 * s)=0) :
  Calls Tryz.prog 285 #[.pointer (some ⟨g,0,none⟩)] w fun e w'=>e = .returned (.tuple #[.int .u8 1, .slice none 0 0])∧Below w.heap.size w w':=by
 have HLd:=hid (load_at h (64 * s) 0 (by omega) (by omega) (by rw [show 64 * s / 8=8 * s by omega];exact h0))
 have hna:=aheadLoad ⟨a.th 0,0,none⟩
 have hm:=methLoad (some ⟨a.th 0,0,none⟩)
 have HBB:=hid hB
 have f0:w.cell? ⟨g,0,none⟩=some (memV a):=hB.cell 0
 have f1:w.cell? ⟨g,1,none⟩=some (.int .u64 ((64 * s:Nat):Int)):=hB.cell 1
 have HB0:Hid (Below w.heap.size w w.drew):=(Below.refl _ _).drew
 unfold memV at *
 generalize 64 * s=z at *
 clear hB h
 go_enter Tryz.func285,Tryz.ntmps285
 go_wp2_with fail
 go_cut [5] from 16 to 24 (fun v wx=>v = .int .u64 0∧Hid (Below w.heap.size w wx))
 case first =>
  go_region_with (go_at_call 65;refine (HLd.out _ HB0.out).mono ?_;rintro e w1 ⟨rfl,rfl⟩)
  all_goals (go_wp2_with fail;go_meet;exact ⟨rfl,HB0⟩)
 case rest =>
  obtain ⟨rfl,HW⟩:=hcut
  go_wp2
  go_ret2
  exact ⟨rfl,HW.out⟩
end
end Go.Proofs.YtfkjjoglnmeciaaGreatDoor
