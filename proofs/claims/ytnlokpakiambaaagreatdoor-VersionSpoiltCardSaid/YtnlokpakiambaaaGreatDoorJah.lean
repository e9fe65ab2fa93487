/- The walks and laws that the claim leans on, part 8. -/
import Derived.Test.YtnlokpakiambaaaGreatDoorJag
import Derived.Test.YtnlokpakiambaaaGreatDoorCards
import Derived.Test.YtnlokpakiambaaaGreatDoorTie
import Derived.ProofKit
import Derived.OpenShut
import Derived.Deep.DeepHandedRow
import Derived.Lib.LaidTab
set_option maxRecDepth 100000
set_option maxHeartbeats 16000000
namespace Go.Proofs.YtnlokpakiambaaaGreatDoor
open Go.Lib (hid)
section
open Go.RowKit Go.Maps
def SetD (D:DataW Unit) (l:List Nat):Prop:=∀ x,D.atKey (kU x) (.lit (.bool false)) = .lit (.bool (decide (x∈l)))
theorem SetD.nil:SetD (.map []) []:=fun x=>by simp [DataW.atKey]
theorem kU_ne {x y:Nat} (h:x≠y):kU x≠kU y:=fun e=>h (kU_inj e)
theorem kU_key (x:Nat):WideAt.IsKeyLit (kU x):=by simp [WideAt.IsKeyLit]
theorem SetD.put {D:DataW Unit} {l:List Nat} (h:SetD D l) (hm:IsMap D) (o:Nat):SetD (D.put (kU o) (.lit (.bool true))) (o :: l):=fun x=>by
 by_cases hx:x=o
 ·subst hx;rw [atKey_put_same hm (kU_key x)];simp
 ·rw [atKey_put_other (kU_ne hx),h x];simp [hx]
theorem keyU {x:Nat} (h:x < 18446744073709551616):keyOf Tryz.prog 23 (.int .u64 (x:Int))=some (kU x):=keyOf_int_mk Tryz.underlying23 (wf_u64_nat h)
theorem keyedU:Keyed Tryz.prog 23:=int_keyed Tryz.underlying23
theorem plainElem_bool_inv {P:Program} {e:TypeId} (he:P.underlying e=some .bool) {v:Value} {z:DataW Unit × List MemPlace} (h:plainElem P e v=some z):∃ b,v = .bool b∧z=(.lit (.bool b),[]):=by
 cases v <;> simp [plainElem,he] at h
 rename_i b
 exact ⟨b,rfl,h.symm⟩
def frStep (st:List Nat × List Nat) (o:Nat):List Nat × List Nat:=if o∈st.1 then st else (o :: st.1,st.2++[o])
def fr (seen offs:List Nat):List Nat × List Nat:=offs.foldl frStep (seen,[])
end
section
open Go.RowKit
def RetPow (l:Nat) (w:World) (e:Ending) (w':World):Prop:=∃ M:Nat,e = .returned (.int .u64 (M:Int))∧1≤M∧M≤2 * l∧w'=w
theorem nextPow_any (l:Nat) (h0:0 < l) (h:l≤1000000) (w:World) :
  Calls Tryz.prog 223 #[.int .i64 (l:Int)] w (RetPow l w):=by
 have HLn:=hid (len_any l w h)
 have e1:IntKind.u64.wrap (l:Int)=(l:Int):=by rw [IntKind.wrap_u64];omega
 obtain ⟨hb,hk⟩:=bitLen_two l h0 h
 have h1:1≤2 ^ Lib.bitLen l:=Nat.two_pow_pos _
 generalize Lib.bitLen l=k at *
 obtain ⟨M,hM⟩:∃ M:Nat,M=2 ^ k:=⟨_,rfl⟩
 have hp:IntKind.u64.wrap ((2:Int) ^ k)=(M:Int):=by
  rw [IntKind.wrap_u64,show ((2:Int) ^ k)=((2 ^ k:Nat):Int) by push_cast;rfl,← hM]
  omega
 rw [← hM] at hb h1
 clear hM
 go_enter Tryz.func223,Tryz.ntmps223
 go_wp2_with (first
  | (go_at_call 136;refine HLn.out.mono ?_;rintro e w' ⟨rfl,rfl⟩))
 go_ret
 exact ⟨M,rfl,h1,hb,rfl⟩
structure RanI (w wr:World) (g:Nat) (xs:List Nat) (sz s:Nat):Prop where
 row:SortI w wr g xs sz
 new:w.heap.size≤s
 ne:s≠g
 ran:∃ z:Nat,z < 18446744073709551616∧Blk wr s 355 #[.int .u64 (z:Int)]
theorem RanI.next {w wr:World} {g sz s:Nat} {xs:List Nat} (h:RanI w wr g xs sz s) (v:Nat) (hv:v < 18446744073709551616):RanI w ((wr.setCell ⟨s,0,none⟩ (.int .u64 (v:Int))).drewN 3) g xs sz s:=by
 obtain ⟨z,_,hB⟩:=h.ran
 exact ⟨(h.row.other h.new h.ne _).drewN 3,h.new,h.ne,v,hv,(hB.set_ 0 _).drewN 3⟩
theorem RanI.swap {w wr:World} {g sz s:Nat} {xs:List Nat} (h:RanI w wr g xs sz s) {i j x y:Nat} (hi:i < xs.length) (hj:j < xs.length) (hx:wr.cell? ⟨g,i,none⟩=some (.int .u64 (x:Int))) (hy:wr.cell? ⟨g,j,none⟩=some (.int .u64 (y:Int))) :
  RanI w (((wr.setCell ⟨g,i,none⟩ (.int .u64 (y:Int))).setCell ⟨g,j,none⟩ (.int .u64 (x:Int)))).drew g xs sz s:=by
 obtain ⟨z,hz,hB⟩:=h.ran
 exact ⟨(h.row.swap hi hj hx hy).drew,h.new,h.ne,z,hz,((hB.far h.ne _).far h.ne _).drew⟩
theorem RanI.start {w:World} {g sz:Nat} {xs:List Nat} (h:SortI w w g xs sz) (l:Nat) (hl:l < 18446744073709551616):RanI w (w.alloc (.cells #[.int .u64 (l:Int)] 355)) g xs sz w.heap.size:=by
 have hg:g < w.heap.size:=by obtain ⟨cs,ys,h1,_⟩:=h;exact h1.lt
 refine ⟨?_,Nat.le_refl _,by omega,l,hl,Blk.new _ _ _⟩
 obtain ⟨cs,ys,h1,h2,h3,h4,h5⟩:=h
 exact ⟨cs,ys,h1.alloc _,h2,h3,h4,h5.below ((Below.refl _ w).alloc (Nat.le_refl _) _)⟩
theorem breakP_any (g n cap sz a l:Nat) (xs:List Nat) (w:World) (h:SortI w w g xs sz) (hl:xs.length=n) (hb:a+l≤n) (h8:8≤l) (hn:n≤1000000) (hc:n≤cap) (hcm:cap≤9223372036854775807) :
  Calls Tryz.prog 202 #[.slice (some ⟨g,0,none⟩) n cap, .int .i64 (a:Int), .int .i64 ((a+l:Nat):Int)] w (RetSort w g xs sz):=by
 have HR:=hid (RanI.start h l (by omega))
 have HL:=hid hl
 have HP:=hid (nextPow_any l (by omega) (by omega))
 have e1:IntKind.u64.wrap (l:Int)=(l:Int):=by rw [IntKind.wrap_u64];omega
 clear h hl
 go_enter Tryz.func202,Tryz.ntmps202
 go_wp2_with fail
 rw [show ((a:Int)+(l:Int) - (a:Int))=(l:Int) by omega]
 refine (HP.out _).mono ?_
 rintro e w1 ⟨M,rfl,hM1,hM2,rfl⟩
 clear HP
 generalize w.alloc (.cells #[.int .u64 (l:Int)] 355)=W at *
 go_wp2_with fail
 go_loopw [9] (fun vi wr=>∃ P:Nat,vi = .int .i64 (P:Int)∧a+l / 4 * 2≤P+1∧P≤a+l / 4 * 2+2∧Hid (RanI w wr g xs sz w.heap.size)) (fun vi _=>a+l / 4 * 2+3 - (RowKit.intOf vi).toNat)
 case atStart=>exact ⟨a+l / 4 * 2 - 1,by congr 1;omega,by omega,by omega,HR⟩
 case round =>
  clear HR
  obtain ⟨P,rfl,hP1,hP2,HR⟩:=hrel
  by_cases hP:P≤a+l / 4 * 2+1
  ·have e2:decide ((P:Int)≤(a:Int)+(l:Int) / 4 * 2+1)=true:=decide_eq_true (by omega)
   obtain ⟨z,hz,hB⟩:=HR.out.ran
   have HN:=hid (next_any w.heap.size z hz wr (hB.cell 0) (hB.frozen 0))
   have e3:(P:Int) < (n:Int):=by omega
   clear hB hz
   go_wp2_with fail
   refine HN.out.mono ?_
   rintro e w2 ⟨R,hR,rfl,rfl⟩
   obtain ⟨O,hO⟩:∃ O:Nat,O=R &&& (M - 1):=⟨_,rfl⟩
   have lO:O≤M - 1:=by rw [hO];exact Nat.and_le_right
   have eAnd:bits .and .u64 (R:Int) ((M:Int) - 1)=(O:Int):=by
    rw [show ((M:Int) - 1)=((M - 1:Nat):Int) by omega,bits_and_u64_nat _ _ hR (by omega),hO]
   have HR2:=hid (HR.out.next R hR)
   clear hO HN HR
   generalize (wr.setCell ⟨w.heap.size,0,none⟩ (.int .u64 (R:Int))).drewN 3=wr at *
   by_cases hLO:l≤O
   ·have e4:decide ((l:Int)≤(O:Int))=true:=decide_eq_true (by omega)
    obtain ⟨K,hK⟩:∃ K:Nat,K=a+(O - l):=⟨_,rfl⟩
    have k1:(0:Int)≤(a:Int)+((O:Int) - (l:Int)):=by omega
    have k2:(a:Int)+((O:Int) - (l:Int)) < (n:Int):=by omega
    have k3:((a:Int)+((O:Int) - (l:Int))).toNat=K:=by omega
    clear hK
    go_wp2_with fail
    obtain ⟨x1,c1,z1⟩:=HR2.out.row.at_ (i:=P) (by have:=HL.out;omega)
    obtain ⟨x2,c2,z2⟩:=HR2.out.row.at_ (i:=K) (by have:=HL.out;omega)
    obtain ⟨x3,c3⟩:=HR2.out.row.mid (i:=P) (j:=K) (by have:=HL.out;omega) (.int .u64 (x2:Int))
    have H1:=hid (HR2.out.swap (by have:=HL.out;omega) (by have:=HL.out;omega) c1 c2)
    clear HR2
    by_cases hEq:P=K
    ·subst hEq
     obtain rfl:x1=x2:=by
      rw [c1] at c2
      simp at c2
      omega
     go_region
     clear c1 c2 c3 z1 z2
     go_wp2_with fail
     go_roundw
     case rel=>exact ⟨P+1,by go_num,by omega,by omega,H1⟩
     case measure=>simp [RowKit.intOf];omega
    ·go_region
     clear c1 c2 c3 z1 z2
     go_wp2_with fail
     go_roundw
     case rel=>exact ⟨P+1,by go_num,by omega,by omega,H1⟩
     case measure=>simp [RowKit.intOf];omega
   ·have e4:decide ((l:Int)≤(O:Int))=false:=decide_eq_false (by omega)
    obtain ⟨K,hK⟩:∃ K:Nat,K=a+O:=⟨_,rfl⟩
    have k1:(0:Int)≤(a:Int)+(O:Int):=by omega
    have k2:(a:Int)+(O:Int) < (n:Int):=by omega
    have k3:((a:Int)+(O:Int)).toNat=K:=by omega
    clear hK
    go_wp2_with fail
    obtain ⟨x1,c1,z1⟩:=HR2.out.row.at_ (i:=P) (by have:=HL.out;omega)
    obtain ⟨x2,c2,z2⟩:=HR2.out.row.at_ (i:=K) (by have:=HL.out;omega)
    obtain ⟨x3,c3⟩:=HR2.out.row.mid (i:=P) (j:=K) (by have:=HL.out;omega) (.int .u64 (x2:Int))
    have H1:=hid (HR2.out.swap (by have:=HL.out;omega) (by have:=HL.out;omega) c1 c2)
    clear HR2
    by_cases hEq:P=K
    ·subst hEq
     obtain rfl:x1=x2:=by
      rw [c1] at c2
      simp at c2
      omega
     go_region
     clear c1 c2 c3 z1 z2
     go_wp2_with fail
     go_roundw
     case rel=>exact ⟨P+1,by go_num,by omega,by omega,H1⟩
     case measure=>simp [RowKit.intOf];omega
    ·go_region
     clear c1 c2 c3 z1 z2
     go_wp2_with fail
     go_roundw
     case rel=>exact ⟨P+1,by go_num,by omega,by omega,H1⟩
     case measure=>simp [RowKit.intOf];omega
  ·have e2:decide ((P:Int)≤(a:Int)+(l:Int) / 4 * 2+1)=false:=decide_eq_false (by omega)
   go_wp2_with fail
   go_end0
   exact ⟨rfl,HR.out.row⟩
end
section
open Go.ChangeShapes Go.WideShapes Go.ChangeAt Go.RowKit
theorem ownK:ownKnob Tryz.prog.godebug=none:=by kernel_rfl
theorem laidOut:laidOutB Tryz.prog=true:=by kernel_rfl
theorem gTab : Tryz.prog.globalNamed "bedrock/crc.nibbles" = some 2 := by kernel_rfl
theorem gTabType:(Tryz.prog.globals[2]?).map (·.type)=some 344:=by kernel_rfl
theorem cellsTab:Tryz.prog.cellsOf 344=16:=by kernel_rfl
theorem cellsU32:Tryz.prog.cellsOf 208=1:=by kernel_rfl
def laidList : List (String × DataW Unit) := [("bedrock/crc.nibbles", Rows.laid_bedrock_crc_nibbles), ("bedrock/sizeclass.payload", Rows.laid_bedrock_sizeclass_payload)]
theorem table {W:World} (h:laidMetH Tryz.prog laidList W):Tab W:=by
 have ht : Lib.TabIs Tryz.prog W "bedrock/crc.nibbles" .u32 (Crc.nib.map fun (n : Nat) => (n : Int)) :=
  Lib.tabIs_of_head (rest := [("bedrock/sizeclass.payload", Rows.laid_bedrock_sizeclass_payload)]) gTab gTabType Tryz.underlying344 Tryz.underlying208 cellsU32 cellsTab h
 intro i hi
 have:=ht.cell gTab i (by simpa [Crc.nib] using hi)
 rw [this]
 have hl:i < Crc.nib.length:=by simpa [Crc.nib] using hi
 simp [List.getD,hl]
def nibObj:Obj→Obj
 | .cells _ t frozen => .cells (Crc.nib.map fun (n:Nat)=>Value.int .u32 (n:Int)).toArray t frozen
 | o=>o
def payObj:Obj→Obj
 | .cells _ t frozen => .cells #[.int .i64 3, .int .i64 7, .int .i64 15, .int .i64 31, .int .i64 60] t frozen
 | o=>o
noncomputable def laidWorld (os:Os):World :=
 { World.holding Tryz.prog os ⟨#[],#[],[]⟩ with heap:=((World.holding Tryz.prog os ⟨#[],#[],[]⟩).heap.modify 2 nibObj).modify 0 payObj }
section
variable {H:Type} {enc:TypeId × Value→H} {W:World} {b0 base:Nat} {sp:Nat→Bool} {held:Bool} {v:Value} {d:DataW H} {p:List MemPlace} {r:Reach}
theorem u64_of (hv:Value.okWide Tryz.prog W r b0 23 v) (h:DataW.Trod enc Tryz.prog W base sp held 23 v d p):∃ n:Nat,v = .int .u64 (n:Int)∧n < 18446744073709551616:=by
 obtain ⟨n,hs,_,_,hw⟩:=open_int Tryz.underlying23 hv h
 have hb:0≤n∧n < 18446744073709551616:=by
  have hm:IntKind.u64.min=0:=by decide
  have hx:IntKind.u64.max=18446744073709551615:=by decide
  simp only [Lit.wf,hm,hx,Bool.and_eq_true,decide_eq_true_eq] at hw
  omega
 exact ⟨n.toNat,by rw [Int.toNat_of_nonneg hb.1];exact hs,by omega⟩
end
end
section
open Go.RowKit
def sealB (x:Nat):List Nat:=[x % 256,x / 256 % 256,x / 65536 % 256,x / 16777216 % 256]
def sealW (x:Nat):Nat:=Crc.sum (sealB x) * 4294967296+x
theorem sealB_lt (x:Nat):∀ b∈sealB x,b < 256:=by
 intro b hb
 simp only [sealB,List.mem_cons,List.not_mem_nil,or_false] at hb
 omega
theorem sealW_lt (x:Nat) (hx:x < 4294967296):sealW x < 18446744073709551616:=by
 have:=Crc.sum_lt (sealB_lt x)
 unfold sealW
 omega
theorem seal_or (s x:Nat) (hs:s < 4294967296) (hx:x < 4294967296):bits .or .u64 ((s:Int) * 4294967296) (x:Int)=((s * 4294967296+x:Nat):Int):=by
 rw [show (s:Int) * 4294967296=((s * 4294967296:Nat):Int) by omega]
 rw [u64_or_nat _ _ (by omega) (by omega)]
 congr 1
 have:=Nat.two_pow_add_eq_or_of_lt (i:=32) (b:=x) hx s
 rw [Nat.mul_comm s,show (4294967296:Nat)=2 ^ 32 from rfl,← this]
theorem seal_any (x:Nat) (hx:x < 4294967296) (w:World) (ht:Tab w) :
  Calls Tryz.prog 237 #[.int .u32 (x:Int)] w fun e w'=>e = .returned (.int .u64 (sealW x:Int))∧Below w.heap.size w w':=by
 have HS:=hid (fun (W:World) (hW:Below w.heap.size w W) (B:Nat) h=>sum_any (some ⟨w.heap.size,0,none⟩) 4 4 B (sealB x) W (sealB_lt x) h (by omega) (ht.below hW))
 have hsl:=Crc.sum_lt (sealB_lt x)
 have HB:Hid (sealB x=[x % 256,x / 256 % 256,x / 65536 % 256,x / 16777216 % 256]):=rfl
 have e0:IntKind.u8.wrap (x:Int)=((x % 256:Nat):Int):=by rw [IntKind.wrap_u8];omega
 have e1:IntKind.u8.wrap ((x:Int) / 256)=((x / 256 % 256:Nat):Int):=by rw [IntKind.wrap_u8];omega
 have e2:IntKind.u8.wrap ((x:Int) / 65536)=((x / 65536 % 256:Nat):Int):=by rw [IntKind.wrap_u8];omega
 have e3:IntKind.u8.wrap ((x:Int) / 16777216)=((x / 16777216 % 256:Nat):Int):=by rw [IntKind.wrap_u8];omega
 have e4:bits .or .u64 ((Crc.sum (sealB x):Int) * 4294967296) (x:Int)=(sealW x:Int):=seal_or _ x hsl hx
 generalize sealW x=z at *
 generalize Crc.sum (sealB x)=s at *
 generalize sealB x=l at *
 generalize x % 256=b0 at *
 generalize x / 256 % 256=b1 at *
 generalize x / 65536 % 256=b2 at *
 generalize x / 16777216 % 256=b3 at *
 have u1:IntKind.u64.wrap (s:Int)=(s:Int):=by rw [IntKind.wrap_u64];omega
 have u2:IntKind.u64.wrap (x:Int)=(x:Int):=by rw [IntKind.wrap_u64];omega
 have u3:IntKind.u64.wrap ((s:Int) * 4294967296)=(s:Int) * 4294967296:=by rw [IntKind.wrap_u64];omega
 clear ht
 go_enter Tryz.func237,Tryz.ntmps237
 go_wp2_with (go_at_call 255;refine (HS.out _ ((Below.refl _ _).alloc (Nat.le_refl _) _) (w.heap.size+1) (by rw [HB.out];exact row_reads_at w _ rfl _ 4 1 5 _ rfl rfl)).mono ?_;rintro e w1 ⟨rfl,rfl⟩)
 go_ret
 exact ⟨rfl,(Below.refl _ _).alloc (Nat.le_refl _) _⟩
end
section
open Go.RowKit
def ulogCells (a:DA) (s n:Nat):Array Value:=#[memV a, .int .u64 ((64 * s:Nat):Int), .int .i64 (n:Int)]
theorem undoOpen_any {a:DA} {L T:Nat} {w:World} {S:Fp} {cur:Nat→Nat} {F:Nat} (h:Dev a L T w S cur F) (s n:Nat) (hn:2≤n) (hs:s+n≤L) :
  Calls Tryz.prog 147 #[memV a, .int .i64 (s:Int), .int .i64 (n:Int)] w fun e w'=>e = .returned (.tuple #[.pointer (some ⟨w.heap.size,0,none⟩), .int .i64 0])∧w'=w.alloc (.cells (ulogCells a s n) 322):=by
 obtain ⟨ls,exe,per,cs,lsC,hdc,hnt⟩:=h
 have hL:=hdc.hL
 obtain ⟨f0,f2,_,_,_⟩:=hdc.facts (j:=0) (by omega)
 clear hdc hnt
 have hq:=eqMem (some ⟨a.th 0,0,none⟩)
 have hmS:=methSize (some ⟨a.th 0,0,none⟩)
 unfold memV ulogCells memV
 have e1:decide ((s:Int) < 0)=false:=decide_eq_false (by omega)
 have e2:decide ((n:Int) < 2)=false:=decide_eq_false (by omega)
 have u1:IntKind.u64.wrap ((L:Int) * 64)=(L:Int) * 64:=by rw [IntKind.wrap_u64];omega
 have u2:IntKind.u64.wrap (n:Int)=(n:Int):=by rw [IntKind.wrap_u64];omega
 have u3:IntKind.u64.wrap (s:Int)=(s:Int):=by rw [IntKind.wrap_u64];omega
 have u4:IntKind.u64.wrap ((L:Int) - (n:Int))=(L:Int) - (n:Int):=by rw [IntKind.wrap_u64];omega
 have u5:IntKind.u64.wrap ((s:Int) * 64)=((64 * s:Nat):Int):=by rw [IntKind.wrap_u64];omega
 have d1:((L:Int) * 64).tdiv 64=(L:Int):=by rw [Int.mul_tdiv_cancel _ (by decide)]
 have e3:decide ((L:Int) < (n:Int))=false:=decide_eq_false (by omega)
 have e4:decide ((L:Int) - (n:Int) < (s:Int))=false:=decide_eq_false (by omega)
 go_enter Tryz.func147,Tryz.ntmps147
 go_wp2
 go_ret2
 exact ⟨rfl,rfl⟩
theorem redoOpen_any {a:DA} {L T:Nat} {w:World} {S:Fp} {cur:Nat→Nat} {F:Nat} (h:Dev a L T w S cur F) (s n:Nat) (hn:26≤n) (hs:s+n≤L) :
  Calls Tryz.prog 145 #[memV a, .int .i64 (s:Int), .int .i64 (n:Int)] w fun e w'=>e = .returned (.tuple #[.pointer (some ⟨w.heap.size,0,none⟩), .int .i64 0])∧w'=w.alloc (.cells (logCells a s n) 231):=by
 have HH:=hid (handle_any h s n hn hs)
 clear h
 unfold memV at *
 go_enter Tryz.func145,Tryz.ntmps145
 go_wp2_with (go_at_call 143;refine HH.out.mono ?_;rintro e w1 ⟨rfl,rfl⟩)
 go_ret2
 exact ⟨rfl,rfl⟩
end
section
open Go.RowKit
theorem aheadLoad (p : Addr) (w : World) : (nilAhead 563 41 (.pointer (some p)) "Load").run Tryz.prog w = .ok (some false) w := by kernel_rfl
theorem load_at {a:DA} {L T:Nat} {w:World} {S:Fp} {cur:Nat→Nat} {F:Nat} (h:Dev a L T w S cur F) (off v:Nat) (h8:off % 8=0) (hlt:off < 64 * L) (hv:cur (off / 8)=v) (W:World) (hW:Below w.heap.size w W) :
  Calls Tryz.prog 53 #[.pointer (some ⟨a.th 0,0,none⟩), .int .u64 (off:Int)] W fun e w'=>e = .returned (.int .u64 (v:Int))∧W=w':=by
 obtain ⟨s,exe,per,cs,ls,hdc,_⟩:=h.below hW
 subst hv
 exact load_any hdc (by omega) off h8 hlt
theorem look_idle {a:DA} {L T:Nat} {w:World} {S:Fp} {cur:Nat→Nat} {F:Nat} (h:Dev a L T w S cur F) (g s n:Nat) (hB:Blk w g 231 (logCells a s n)) (hs:s < L) (h0:cur (8 * s)=0) :
  Calls Tryz.prog 188 #[.pointer (some ⟨g,0,none⟩)] w fun e w'=>e = .returned (.tuple #[.int .u8 1, .slice none 0 0])∧Below w.heap.size w w':=by
 have HLd:=hid (load_at h (64 * s) 0 (by omega) (by omega) (by rw [show 64 * s / 8=8 * s by omega];exact h0))
 have hna:=aheadLoad ⟨a.th 0,0,none⟩
 have hm:=methLoad (some ⟨a.th 0,0,none⟩)
 have HBB:=hid hB
 have f0:w.cell? ⟨g,0,none⟩=some (memV a):=hB.cell 0
 have f1:w.cell? ⟨g,1,none⟩=some (.int .u64 ((64 * s:Nat):Int)):=hB.cell 1
 have HB0:Hid (Below w.heap.size w w.drew):=(Below.refl _ _).drew
 unfold memV at *
 generalize 64 * s=z at *
 clear hB h
 go_enter Tryz.func188,Tryz.ntmps188
 go_wp2_with fail
 go_cut [5] from 16 to 24 (fun v wx=>v = .int .u64 0∧Hid (Below w.heap.size w wx))
 case first =>
  go_region_with (go_at_call 53;refine (HLd.out _ HB0.out).mono ?_;rintro e w1 ⟨rfl,rfl⟩)
  all_goals (go_wp2_with fail;go_meet;exact ⟨rfl,HB0⟩)
 case rest =>
  obtain ⟨rfl,HW⟩:=hcut
  go_wp2
  go_ret2
  exact ⟨rfl,HW.out⟩
end
section
open Go.RowKit
def payW:Nat→Nat
 | 0=>3
 | 1=>7
 | 2=>15
 | 3=>31
 | _=>60
def perC (c:Nat):Nat:=248 / (payW c+1)
def offB (c i:Nat):Nat:=8+i * (payW c+1)
def findC (c x:Nat):Option Nat:=if x≤8∨256≤x then none else if (x - 9) % (payW c+1)≠0∨perC c≤(x - 9) / (payW c+1) then none else some ((x - 9) / (payW c+1))
theorem pay_le (c:Nat):3≤payW c∧payW c≤60:=by
 unfold payW
 split <;> omega
theorem per_le (c:Nat):4≤perC c∧perC c≤62:=by
 unfold perC payW
 split <;> omega
theorem off_lt {c i:Nat} (h:i < perC c):offB c i+payW c+1≤256:=by
 unfold perC payW at h
 unfold offB payW
 split at h <;> omega
theorem off_inj {c i j:Nat} (hij:i < j):offB c i+payW c+1≤offB c j:=by
 unfold offB
 have h:(i+1) * (payW c+1)≤j * (payW c+1):=Nat.mul_le_mul_right _ hij
 rw [Nat.succ_mul] at h
 omega
theorem findC_off {c i:Nat} (h:i < perC c):findC c (offB c i+1)=some i:=by
 have h1:=off_lt h
 have h2:=pay_le c
 unfold findC
 rw [if_neg (by unfold offB at *;omega)]
 have e:offB c i+1 - 9=i * (payW c+1):=by unfold offB;omega
 rw [e,Nat.mul_mod_left,Nat.mul_div_cancel _ (by omega),if_neg (by omega)]
theorem findC_some {c x i:Nat} (h:findC c x=some i):i < perC c∧x=offB c i+1:=by
 unfold findC at h
 split at h
 ·cases h
 ·split at h
  ·cases h
  ·rename_i h1 h2
   injection h with h
   have h3:=Nat.div_add_mod (x - 9) (payW c+1)
   rw [h] at h3 h2
   refine ⟨by omega,?_⟩
   unfold offB
   rw [Nat.mul_comm] at h3
   omega
def Pay (w:World):Prop:=∀ i,i < 5→w.cell? ⟨0,i,none⟩=some (.int .i64 (payW i:Int))
theorem Pay.size {w:World} (h:Pay w):0 < w.heap.size:=World.block_lt_of_cell? _ _ (h 0 (by omega))
theorem Pay.below {w w':World} (h:Pay w) (hb:Below w.heap.size w w'):Pay w':=fun i hi=>by
 rw [hb.cell (p:=⟨0,i,none⟩) h.size]
 exact h i hi
section
theorem szWords_any (c:Nat) (hc:c < 5) (w:World) (hp:Pay w):Calls Tryz.prog 95 #[.int .i64 (c:Int)] w fun e w'=>e = .returned (.int .i64 (payW c:Int))∧w=w':=by
 have f:=hp c hc
 have h1:(0:Int)≤(c:Int):=by omega
 have h2:(c:Int) < 5:=by omega
 clear hp
 generalize payW c=q at *
 go_enter Tryz.func95,Tryz.ntmps95
 go_wp2
 go_ret
 exact ⟨rfl,rfl⟩
theorem perChunk_any (c:Nat) (hc:c < 5) (w:World) (hp:Pay w):Calls Tryz.prog 184 #[.int .i64 (c:Int)] w fun e w'=>e = .returned (.int .i64 (perC c:Int))∧w=w':=by
 have HW:=hid (szWords_any c hc w hp)
 obtain ⟨g3,g4⟩:=pay_le c
 have e1:((payW c:Int) == 0)=false:=by rw [beq_eq_false_iff_ne];omega
 have e2:(248:Int) / ((payW c:Int)+1)=(perC c:Int):=by
  rw [show ((payW c:Int)+1)=((payW c+1:Nat):Int) by omega]
  exact (Int.natCast_ediv 248 (payW c+1)).symm
 have e3:(248:Int).tdiv ((payW c:Int)+1)=(perC c:Int):=by rw [Int.tdiv_eq_ediv_of_nonneg (by omega)];exact e2
 have e4:¬ ((payW c:Int)+1=0):=by omega
 obtain ⟨g1,g2⟩:=per_le c
 clear hp
 generalize payW c=q at *
 generalize perC c=r at *
 go_enter Tryz.func184,Tryz.ntmps184
 go_wp2_with (go_at_call 95;refine HW.out.mono ?_;rintro e w1 ⟨rfl,rfl⟩)
 go_ret
 exact ⟨rfl,rfl⟩
theorem offset_any (c i:Nat) (hc:c < 5) (hi:i < perC c) (w:World) (hp:Pay w):Calls Tryz.prog 239 #[.int .i64 (c:Int), .int .i64 (i:Int)] w fun e w'=>e = .returned (.tuple #[.int .i64 (offB c i:Int), .int .i64 0])∧w=w':=by
 have HW:=hid (perChunk_any c hc w hp)
 have f:=hp c hc
 obtain ⟨g3,g4⟩:=pay_le c
 obtain ⟨g1,g2⟩:=per_le c
 have h3:=off_lt hi
 have e1:((perC c:Int) == 0)=false:=by rw [beq_eq_false_iff_ne];omega
 have e2:(i:Int) < (perC c:Int):=by omega
 have e2b:(0:Int)≤(i:Int):=by omega
 have e2c:decide ((perC c:Int)≤(i:Int))=false:=decide_eq_false (by omega)
 have e5:(0:Int)≤(c:Int):=by omega
 have e6:(c:Int) < 5:=by omega
 have e7:IntKind.i64.wrap ((i:Int) * ((payW c:Int)+1))=((i * (payW c+1):Nat):Int):=by
  rw [show (i:Int) * ((payW c:Int)+1)=((i * (payW c+1):Nat):Int) by push_cast;rfl]
  exact IntWalk.i64_in _ (by unfold offB at h3;omega)
 have e7b:wrap64 ((i:Int) * ((payW c:Int)+1))=((i * (payW c+1):Nat):Int):=by
  rw [show (i:Int) * ((payW c:Int)+1)=((i * (payW c+1):Nat):Int) by push_cast;rfl]
  unfold wrap64;unfold offB at h3;omega
 have HOf:Hid ((offB c i:Int)=8+((i * (payW c+1):Nat):Int)):=hid (by unfold offB;omega)
 have h4:i * (payW c+1)≤256:=by unfold offB at h3;omega
 clear hp h3
 generalize i * (payW c+1)=z at *
 generalize offB c i=ob at *
 generalize payW c=q at *
 generalize perC c=r at *
 go_enter Tryz.func239,Tryz.ntmps239
 go_wp2_with (go_at_call 184;refine HW.out.mono ?_;rintro e w1 ⟨rfl,rfl⟩)
 go_ret2
 exact ⟨by rw [HOf.out];rfl,rfl⟩
def findR (c x:Nat):Value:=match findC c x with
 | some i => .tuple #[.int .i64 (i:Int), .bool true]
 | none => .tuple #[.int .i64 0, .bool false]
theorem szFind_any (c x:Nat) (hc:c < 5) (hx:x≤1000000000) (w:World) (hp:Pay w):Calls Tryz.prog 138 #[.int .i64 (c:Int), .int .i64 (x:Int)] w fun e w'=>e = .returned (findR c x)∧w=w':=by
 have HW:=hid (perChunk_any c hc w hp)
 have f:=hp c hc
 obtain ⟨g3,g4⟩:=pay_le c
 obtain ⟨g1,g2⟩:=per_le c
 have e1:((perC c:Int) == 0)=false:=by rw [beq_eq_false_iff_ne];omega
 have e5:(0:Int)≤(c:Int):=by omega
 have e6:(c:Int) < 5:=by omega
 by_cases h1:x≤8∨256≤x
 ·have hr:findR c x = .tuple #[.int .i64 0, .bool false]:=by unfold findR findC;rw [if_pos h1]
  rw [hr]
  clear hr hp
  generalize payW c=q at *
  generalize perC c=r at *
  rcases h1 with h1 | h1
  ·have d1:decide ((x:Int)≤8)=true:=decide_eq_true (by omega)
   go_enter Tryz.func138,Tryz.ntmps138
   go_wp2_with (go_at_call 184;refine HW.out.mono ?_;rintro e w1 ⟨rfl,rfl⟩)
   go_ret2
   exact ⟨rfl,rfl⟩
  ·have d1:decide ((x:Int)≤8)=false:=decide_eq_false (by omega)
   have d2:decide (256≤(x:Int))=true:=decide_eq_true (by omega)
   go_enter Tryz.func138,Tryz.ntmps138
   go_wp2_with (go_at_call 184;refine HW.out.mono ?_;rintro e w1 ⟨rfl,rfl⟩)
   go_ret2
   exact ⟨rfl,rfl⟩
 ·have d1:decide ((x:Int)≤8)=false:=decide_eq_false (by omega)
  have d2:decide (256≤(x:Int))=false:=decide_eq_false (by omega)
  have k1:(8:Int) < (x:Int):=by omega
  have k2:(x:Int) < 256:=by omega
  obtain ⟨y,hy⟩:∃ y,x - 9=y:=⟨_,rfl⟩
  have hxy:(x:Int) - 8 - 1=(y:Int):=by omega
  have m1:((y:Int) % ((payW c:Int)+1))=((y % (payW c+1):Nat):Int):=by
   rw [show ((payW c:Int)+1)=((payW c+1:Nat):Int) by omega];exact (Int.natCast_emod y (payW c+1)).symm
  have m2:((y:Int) / ((payW c:Int)+1))=((y / (payW c+1):Nat):Int):=by
   rw [show ((payW c:Int)+1)=((payW c+1:Nat):Int) by omega];exact (Int.natCast_ediv y (payW c+1)).symm
  have m3:((y:Int).tmod ((payW c:Int)+1))=((y % (payW c+1):Nat):Int):=by rw [Int.tmod_eq_emod_of_nonneg (by omega)];exact m1
  have m4:((y:Int).tdiv ((payW c:Int)+1))=((y / (payW c+1):Nat):Int):=by rw [Int.tdiv_eq_ediv_of_nonneg (by omega)];exact m2
  have n1:y % (payW c+1)≤256:=by have:=Nat.mod_le y (payW c+1);omega
  have n2:y / (payW c+1)≤256:=by have:=Nat.div_le_self y (payW c+1);omega
  have HR:Hid (findR c x=if y % (payW c+1)≠0∨perC c≤y / (payW c+1) then .tuple #[.int .i64 0, .bool false] else .tuple #[.int .i64 ((y / (payW c+1):Nat):Int), .bool true]):=hid (by
   unfold findR findC
   rw [if_neg h1,hy]
   by_cases hz:y % (payW c+1)≠0∨perC c≤y / (payW c+1)
   ·rw [if_pos hz,if_pos hz]
   ·rw [if_neg hz,if_neg hz])
  clear hp h1 hy
  generalize findR c x=rr at *
  generalize y % (payW c+1)=ym at *
  generalize y / (payW c+1)=yd at *
  generalize payW c=q at *
  generalize perC c=r at *
  have yp:(0:Int)≤(y:Int):=by omega
  have q1:¬ ((q:Int)+1=0):=by omega
  by_cases h2:ym=0
  ·by_cases h3:yd < r
   ·have r1:((ym:Int) == 0)=true:=by rw [beq_iff_eq];omega
    have r2:decide ((r:Int)≤(yd:Int))=false:=decide_eq_false (by omega)
    have r3:decide (r≤yd)=false:=decide_eq_false (by omega)
    subst h2
    rw [HR.out,if_neg (by omega)]
    clear HR
    go_enter Tryz.func138,Tryz.ntmps138
    go_wp2_with (go_at_call 184;refine HW.out.mono ?_;rintro e w1 ⟨rfl,rfl⟩)
    go_ret2
    exact ⟨rfl,rfl⟩
   ·have r2:decide ((r:Int)≤(yd:Int))=true:=decide_eq_true (by omega)
    have r3:decide (r≤yd)=true:=decide_eq_true (by omega)
    subst h2
    rw [HR.out,if_pos (by omega)]
    clear HR
    go_enter Tryz.func138,Tryz.ntmps138
    go_wp2_with (go_at_call 184;refine HW.out.mono ?_;rintro e w1 ⟨rfl,rfl⟩)
    go_ret2
    exact ⟨rfl,rfl⟩
  ·have r1:((ym:Int) == 0)=false:=by rw [beq_eq_false_iff_ne];omega
   rw [HR.out,if_pos (by omega)]
   clear HR
   go_enter Tryz.func138,Tryz.ntmps138
   go_wp2_with (go_at_call 184;refine HW.out.mono ?_;rintro e w1 ⟨rfl,rfl⟩)
   go_ret2
   exact ⟨rfl,rfl⟩
def clsOf (n:Nat):Nat:=if n≤3 then 0 else if n≤7 then 1 else if n≤15 then 2 else if n≤31 then 3 else 4
theorem class_any (n:Nat) (h0:0 < n) (h60:n≤60) (w:World) (hp:Pay w):Calls Tryz.prog 195 #[.int .i64 (n:Int)] w fun e w'=>e = .returned (.tuple #[.int .i64 (clsOf n:Int), .int .i64 0])∧w=w':=by
 have HP:=hid hp
 have h1:(1:Int)≤(n:Int):=by omega
 have HC:Hid (clsOf n < 5∧∀ i,i < 5→(n≤payW i↔clsOf n≤i)):=hid (by
  have hcl:(n≤3∧clsOf n=0)∨(3 < n∧n≤7∧clsOf n=1)∨(7 < n∧n≤15∧clsOf n=2)∨(15 < n∧n≤31∧clsOf n=3)∨(31 < n∧clsOf n=4):=by
   unfold clsOf
   by_cases a1:n≤3
   ·rw [if_pos a1];omega
   ·rw [if_neg a1]
    by_cases a2:n≤7
    ·rw [if_pos a2];omega
    ·rw [if_neg a2]
     by_cases a3:n≤15
     ·rw [if_pos a3];omega
     ·rw [if_neg a3]
      by_cases a4:n≤31
      ·rw [if_pos a4];omega
      ·rw [if_neg a4];omega
  refine ⟨by omega,fun i hi=>?_⟩
  have hi5:i=0∨i=1∨i=2∨i=3∨i=4:=by omega
  rcases hi5 with rfl | rfl | rfl | rfl | rfl <;> simp only [payW] <;> omega)
 clear hp
 generalize clsOf n=cn at *
 go_enter Tryz.func195,Tryz.ntmps195
 go_wp2
 go_loopw [7] (fun i wr=>∃ k:Nat,k≤5∧k≤cn∧i = .int .i64 (k:Int)∧Hid (w=wr)) (fun i _=>5 - (Go.RowKit.intOf i).toNat)
 case atStart=>exact ⟨0,by omega,Nat.zero_le _,rfl,hid rfl⟩
 case round =>
  obtain ⟨k,hk,hkc,rfl,hw⟩:=hrel
  have hw:=hw.out
  subst hw
  have hk5:k < 5:=by have:=HC.out.1;omega
  have f:=HP.out k hk5
  have hz5:(0:Int)≤(k:Int):=by omega
  have hz6:(k:Int) < 5:=by omega
  have hiff:=HC.out.2 k hk5
  generalize payW k=q at *
  by_cases hle:n≤q
  ·have d:decide ((n:Int)≤(q:Int))=true:=decide_eq_true (by omega)
   have hkk:k=cn:=by have:=hiff.1 hle;omega
   subst hkk
   clear hiff
   go_wp2
   go_ret2
   exact ⟨rfl,rfl⟩
  ·have d:decide ((n:Int)≤(q:Int))=false:=decide_eq_false (by omega)
   have hlt:k < cn:=by
    have:¬ cn≤k:=fun h=>hle (hiff.2 h)
    omega
   clear hiff
   go_wp2
   go_roundw
   case rel =>
    first
     | exact ⟨k+1,by omega,by omega,by go_num,hid trivial⟩
     | exact ⟨k+1,by omega,by omega,by go_num,hid rfl⟩
   case measure=>simp [Go.RowKit.intOf];omega
end
end
section
open Go.RowKit
theorem thread_any {a:DA} {L T:Nat} {w:World} {S:Fp} {cur:Nat→Nat} {F:Nat} (h:Dev a L T w S cur F) :
  Calls Tryz.prog 100 #[.pointer (some ⟨a.d,0,none⟩), .int .i64 0] w fun e w'=>e = .returned (.pointer (some ⟨a.th 0,0,none⟩))∧w=w':=by
 obtain ⟨ls,exe,per,cs,lsC,hdc,hnt⟩:=h
 have f3:w.cell? ⟨a.d,3,none⟩=some (.pointer (some ⟨a.th 0,0,none⟩)):=hdc.dev.cell 3
 clear hdc hnt
 go_enter Tryz.func100,Tryz.ntmps100
 go_wp2
 go_ret
 exact ⟨rfl,rfl⟩
def mgrCells (th r u h:Option Addr) (last:Option Addr):Array Value:=#[.pointer th, .pointer r, .pointer u, .pointer h, .pointer last]
theorem txNew_any (th r u h:Option Addr) (w:World) :
  Calls Tryz.prog 151 #[.pointer th, .pointer r, .pointer u, .pointer h] w fun e w'=>e = .returned (.pointer (some ⟨w.heap.size,0,none⟩))∧w'=w.alloc (.cells (mgrCells th r u h none) 331):=by
 go_enter Tryz.func151,Tryz.ntmps151
 go_wp2
 go_ret
 exact ⟨rfl,rfl⟩
structure SA where
 r:Nat
 u:Nat
 h:Nat
 gs:Nat
 mr:Nat
 mh:Nat
 m:Nat
end
section
open Go.RowKit Go.Maps
structure PMapD (D:DataW Unit) (f:Nat→Option Nat) (n:Nat):Prop where
 at_:∀ x,D.atKey (kU x) (.lit (.int .u64 0)) = .lit (.int .u64 (((f x).getD 0:Nat):Int))
 has:∀ x,Maps.has D (kU x)=(f x).isSome
 size:Maps.size D=n
def PMap (w:World) (b N:Nat) (f:Nat→Option Nat) (n:Nat):Prop:=∃ D:DataW Unit,w.ownsMap Tryz.prog 23 (plainElem Tryz.prog 27) b N D∧PMapD D f n
def updF (f:Nat→Option Nat) (x:Nat) (v:Option Nat):Nat→Option Nat:=fun y=>if y=x then v else f y
section
variable {w w':World} {b N n:Nat} {f:Nat→Option Nat}
theorem PMap.look (h:PMap w b N f n) {x:Nat} (hx:x < 18446744073709551616):(Instr.lookup 168 (.map (some b)) (.int .u64 (x:Int)) true).run Tryz.prog w = .ok (.tuple #[.int .u64 (((f x).getD 0:Nat):Int), .bool (f x).isSome]) w:=by
 obtain ⟨D,ho,hd⟩:=h
 obtain ⟨v,ps,hrun,hv⟩:=ho.look_ok keyedU Tryz.underlying168 (z := .int .u64 0) (by kernel_rfl) (plainElem_int Tryz.underlying27 (by decide)) (keyU hx)
 obtain ⟨c,rfl,hc,hwc⟩:=plainElem_int_inv Tryz.underlying27 hv
 rw [hd.at_ x] at hc
 simp at hc
 rw [hrun,hd.has x,← hc.1]
theorem PMap.put (h:PMap w b N f n) (hN:N < maxLen) {x p:Nat} (hx:x < 18446744073709551616) (hp:p < 18446744073709551616) (hf:f x=none) :
  ∃ w',(Instr.mapUpdate 168 (.map (some b)) (.int .u64 (x:Int)) (.int .u64 (p:Int))).run Tryz.prog w = .ok () w'∧PMap w' b (N+1) (updF f x (some p)) (n+1)∧w.grownBy w' (some b):=by
 obtain ⟨D,ho,hd⟩:=h
 obtain ⟨w',hrun,ho',hg⟩:=ho.update keyedU Tryz.underlying168 hN (keyU hx) (plainElem_int Tryz.underlying27 (wf_u64_nat hp))
 refine ⟨w',hrun,⟨_,ho',⟨fun y=>?_,fun y=>?_,?_⟩⟩,hg⟩
 ·unfold updF
  by_cases hy:y=x
  ·subst hy;rw [atKey_put_same ho.isMap (kU_key y)];simp
  ·rw [atKey_put_other (kU_ne hy),hd.at_ y,if_neg hy]
 ·unfold updF
  by_cases hy:y=x
  ·subst hy;rw [has_put_same ho.isMap (kU_key y)];simp
  ·rw [has_put_other (kU_ne hy),hd.has y,if_neg hy]
 ·rw [size_put (ho.tidy keyedU),hd.has x,hf,hd.size];rfl
theorem PMap.del (h:PMap w b N f n) {x:Nat} (hx:x < 18446744073709551616) {p:Nat} (hf:f x=some p) :
  ∃ w',(Builtin.delete_ #[168,23] 0 #[.map (some b), .int .u64 (x:Int)]).run Tryz.prog w = .ok (.tuple #[]) w'∧PMap w' b N (updF f x none) (n - 1)∧w.grownBy w' (some b):=by
 obtain ⟨D,ho,hd⟩:=h
 obtain ⟨w',hrun,ho',hg⟩:=ho.drop keyedU Tryz.underlying168 (keyU hx) 0
 refine ⟨w',hrun,⟨_,ho',⟨fun y=>?_,fun y=>?_,?_⟩⟩,hg.grown⟩
 ·unfold updF
  by_cases hy:y=x
  ·subst hy;rw [atKey_del_same];simp
  ·rw [atKey_del_other (kU_ne hy),hd.at_ y,if_neg hy]
 ·unfold updF
  by_cases hy:y=x
  ·subst hy;rw [has_del_same];simp
  ·rw [has_del_other (kU_ne hy),hd.has y,if_neg hy]
 ·have h1:=size_del (k:=kU x) (ho.tidy keyedU)
  rw [hd.has x,hf,hd.size] at h1
  simp at h1
  omega
theorem PMap.new (w:World):PMap (w.alloc (.map #[] 0)) w.heap.size 0 (fun _=>none) 0:=⟨_,World.ownsMap_made w _ _ _,⟨fun x=>by simp [DataW.atKey],fun x=>by simp [Maps.has],rfl⟩⟩
theorem PMap.chg {Z:Fp} (h:PMap w b N f n) (hc:Chg Z w w') (hb:¬ Z b):PMap w' b N f n:=by
 obtain ⟨D,ho,hd⟩:=h
 exact ⟨D,hc.map ho hb,hd⟩
theorem PMap.mono {N':Nat} (h:PMap w b N f n) (hN:N≤N'):PMap w b N' f n:=by
 obtain ⟨D,ho,hd⟩:=h
 exact ⟨D,ho.mono hN,hd⟩
theorem PMap.lt (h:PMap w b N f n):b < w.heap.size:=by
 obtain ⟨D,ho,hd⟩:=h
 exact ho.lt
def HMap (w:World) (b N:Nat):Prop:=∃ D:DataW Unit,w.ownsMap Tryz.prog 3 (plainElem Tryz.prog 3) b N D
theorem keyI {x:Nat} (h:x < 9000000000):keyOf Tryz.prog 3 (.int .i64 (x:Int))=some (.int .i64 (x:Int)):=keyOf_int_mk Tryz.underlying3 (WalkArith.wf_i64 ⟨by omega,by omega⟩)
theorem keyedN:Keyed Tryz.prog 3:=int_keyed Tryz.underlying3
theorem HMap.look (h:HMap w b N) {x:Nat} (hx:x < 9000000000):∃ c:Int,(Instr.lookup 169 (.map (some b)) (.int .i64 (x:Int)) false).run Tryz.prog w = .ok (.int .i64 c) w∧(Lit.int .i64 c).wf=true:=by
 obtain ⟨D,ho⟩:=h
 obtain ⟨c,hrun,_,hwc⟩:=ho.lookup_int keyedN Tryz.underlying169 Tryz.underlying3 (by kernel_rfl) (keyI hx)
 exact ⟨c,hrun,hwc⟩
theorem HMap.put (h:HMap w b N) (hN:N < maxLen) {x:Nat} (hx:x < 9000000000) {c:Int} (hc:(Lit.int .i64 c).wf=true) :
  ∃ w',(Instr.mapUpdate 169 (.map (some b)) (.int .i64 (x:Int)) (.int .i64 c)).run Tryz.prog w = .ok () w'∧HMap w' b (N+1)∧w.grownBy w' (some b):=by
 obtain ⟨D,ho⟩:=h
 obtain ⟨w',hrun,ho',hg⟩:=ho.update keyedN Tryz.underlying169 hN (keyI hx) (plainElem_int Tryz.underlying3 hc)
 exact ⟨w',hrun,⟨_,ho'⟩,hg⟩
theorem HMap.del (h:HMap w b N) {x:Nat} (hx:x < 9000000000) :
  ∃ w',(Builtin.delete_ #[169,3] 0 #[.map (some b), .int .i64 (x:Int)]).run Tryz.prog w = .ok (.tuple #[]) w'∧HMap w' b N∧w.grownBy w' (some b):=by
 obtain ⟨D,ho⟩:=h
 obtain ⟨w',hrun,ho',hg⟩:=ho.drop keyedN Tryz.underlying169 (keyI hx) 0
 exact ⟨w',hrun,⟨_,ho'⟩,hg.grown⟩
theorem HMap.new (w:World):HMap (w.alloc (.map #[] 0)) w.heap.size 0:=⟨_,World.ownsMap_made w _ _ _⟩
theorem HMap.chg {Z:Fp} (h:HMap w b N) (hc:Chg Z w w') (hb:¬ Z b):HMap w' b N:=by
 obtain ⟨D,ho⟩:=h
 exact ⟨D,hc.map ho hb⟩
theorem HMap.lt (h:HMap w b N):b < w.heap.size:=by
 obtain ⟨D,ho⟩:=h
 exact ho.lt
end
end
section
open Go.RowKit
theorem size_dev {a:DA} {L T:Nat} {w:World} {S:Fp} {cur:Nat→Nat} {F:Nat} (h:Dev a L T w S cur F) :
  Calls Tryz.prog 283 #[.pointer (some ⟨a.th 0,0,none⟩)] w fun e w'=>e = .returned (.int .u64 ((L:Int) * 64))∧w'=w:=by
 obtain ⟨ls,exe,per,cs,lsC,hdc,hnt⟩:=h
 have hL:=hdc.hL
 obtain ⟨f0,f2,_,_,f4⟩:=hdc.facts (j:=0) (by omega)
 have u1:IntKind.u64.wrap ((L:Int) * 64)=(L:Int) * 64:=by rw [IntKind.wrap_u64];omega
 clear hdc hnt
 go_enter Tryz.func283,Tryz.ntmps283
 go_wp2_with go_in
 go_ret
 exact ⟨rfl,rfl⟩
theorem allowedR_any {a:DA} {L T:Nat} {w:World} {S:Fp} {cur:Nat→Nat} {F:Nat} (h:Dev a L T w S cur F) (g s n:Nat) (hB:Blk w g 231 (logCells a s n)) (hs:s+n≤L) (o:Nat) (ho:OffOk L s n o) :
  Calls Tryz.prog 123 #[.pointer (some ⟨g,0,none⟩), .int .u64 (o:Int)] w fun e w'=>e = .returned (.bool true)∧Below w.heap.size w w':=by
 have c0:w.cell? ⟨g,0,none⟩=some (memV a):=hB.cell 0
 have c1:w.cell? ⟨g,1,none⟩=some (.int .u64 ((64 * s:Nat):Int)):=hB.cell 1
 have c2:w.cell? ⟨g,2,none⟩=some (.int .u64 ((64 * n:Nat):Int)):=hB.cell 2
 have hmS:=methSize (some ⟨a.th 0,0,none⟩)
 have HSz:Hid (∀ n,Calls Tryz.prog 283 #[.pointer (some ⟨a.th 0,0,none⟩)] (w.drewN n) fun e w'=>e = .returned (.int .u64 ((L:Int) * 64))∧w'=w.drewN n):=hid (fun n=>size_dev (h.below (below_drewN (Below.refl _ w) n)))
 have hL:L≤4096:=by obtain ⟨ls,exe,per,cs,lsC,hdc,hnt⟩:=h;exact hdc.hL
 obtain ⟨o1,o2,o3⟩:=ho
 have HB0:Hid (∀ n,Below w.heap.size w (w.drewN n)):=hid (fun n=>below_drewN (Below.refl _ w) n)
 have e1:((o:Int) % 8 == 0)=true:=by rw [beq_iff_eq];omega
 have e1':(o:Int) % 8=0:=by omega
 have u1:IntKind.u64.wrap ((L:Int) * 64)=(L:Int) * 64:=by rw [IntKind.wrap_u64];omega
 have e2:decide ((o:Int) < (L:Int) * 64)=true:=decide_eq_true (by omega)
 clear h hB
 unfold memV at *
 by_cases hlt:o < 64 * s
 ·have e3:decide ((o:Int) < ((64 * s:Nat):Int))=true:=decide_eq_true (by omega)
  have e3':decide (o < 64 * s)=true:=decide_eq_true hlt
  generalize 64 * s=z at *
  generalize 64 * n=y at *
  go_enter Tryz.func123,Tryz.ntmps123
  go_wp2
  go_quiet ((go_at_call 283;exact Calls.quiet_of_same (HSz.out _)))
  go_wp2
  go_ret
  exact ⟨rfl,HB0.out _⟩
 ·have e3:decide ((o:Int) < ((64 * s:Nat):Int))=false:=decide_eq_false (by omega)
  have e3':decide (o < 64 * s)=false:=decide_eq_false hlt
  have u4:IntKind.u64.wrap ((o:Int) - ((64 * s:Nat):Int))=(o:Int) - ((64 * s:Nat):Int):=by rw [IntKind.wrap_u64];omega
  have e4:decide (((64 * n:Nat):Int)≤(o:Int) - ((64 * s:Nat):Int))=true:=decide_eq_true (by omega)
  generalize 64 * s=z at *
  generalize 64 * n=y at *
  go_enter Tryz.func123,Tryz.ntmps123
  go_wp2
  go_quiet ((go_at_call 283;exact Calls.quiet_of_same (HSz.out _)))
  go_wp2
  go_ret
  exact ⟨rfl,HB0.out _⟩
end
end Go.Proofs.YtnlokpakiambaaaGreatDoor
