/- The walks and laws that the claim leans on, part 32. -/
import Derived.Test.YtfkjjoglnmeciaaGreatDoorJbd
import Derived.Deep.Onto
import Derived.RangeFuncNested
import Derived.Laws.CopyOwn
import Derived.Lib.BytesEntry
import Derived.Lib.SlBytesConst
set_option maxRecDepth 100000
set_option maxHeartbeats 16000000
namespace Go.Proofs.YtfkjjoglnmeciaaGreatDoor
open Go.Lib (hid)
section
open Go.RowKit Go.Maps
theorem roundIn_any {m m':Nat} {P:Program} {l fn:Nat} {tmps:Array Value} {assign body:Code} {W:World} {R:Ending→World→Prop} (h:RoundIn Fence.wide m P l fn tmps assign body W R):RoundIn Fence.wide m' P l fn tmps assign body W R:=by
 exact ⟨h.1,fun c cs _=>h.2 c cs (room_wide _)⟩
theorem abides_below {β:Type} {B:Nat} {J:β→World→Prop} (h:AbidesFrom B J) {s:β} {W W':World} (hs:J s W) (hb:Below W.heap.size W W'):J s W' :=
 h s W W' none hs ⟨hb.os,hb.tape,hb.output,hb.size,fun k hk _=>hb.block k hk⟩ (fun r e=>by cases e)
section
variable {a:DA} {L T s n K:Nat} {x:HA} {cs:Nat→CS} {f:Nat→Option Nat} {N m b0:Nat} {S:Fp} {cur:Nat→Nat} {w w0:World} {d r:Nat}
end
end
section
open Go.RowKit Go.Maps
structure VV where
 st:Nat
 dl:Bool
 q:Nat
 bl:List Nat
 p:List Nat
section
variable {K:Nat} {cs cs':Nat→CS} {cur cur':Nat→Nat} {v:VV} {older:Nat}
end
section
variable {a:DA} {L T n K:Nat} {x:HA} {cs0 cs cs' cs2:Nat→CS} {f0 f f2:Nat→Option Nat} {N m b0:Nat} {S:Fp} {cur0 cur cur' cur2:Nat→Nat} {w:World} {al p bl ks:List Nat} {V:Nat→Nat} {cm i:Nat}
end
end
section
open Go.RowKit Go.Maps
structure RV where
 v:VV
 B:Option Addr
 nb:Nat
 cb:Nat
 D:Option Addr
 nd:Nat
 cd:Nat
end
section
open Go.RowKit
theorem k_facts {w:World} {B n:Nat} {A:Option Addr} {l:List Nat} (h:Reads w B 1 A n (u8s l)) {k:Nat} (hk:k < n) :
  ∃ (hl:k < l.length) (b off:Nat),A=some ⟨b,off,none⟩∧b < B∧w.cell? ⟨b,off+k,none⟩=some (.int .u8 ((l[k]:Nat):Int)):=by
 have hl:k < l.length:=by have:=h.1;simp [u8s] at this;omega
 obtain ⟨b,off,hA,hb,hc⟩:=h.plain (by omega) (by omega)
 exact ⟨hl,b,off,hA,hb,hc k _ (by simp [u8s,hl])⟩
def RetChg (w:World) (ln cl:Nat) (bs:Nat→BK) (take:List (Nat × Nat)) (drop:List Nat) (e:Ending) (w':World):Prop :=
 ∃ A m c V',e = .returned (.tuple #[.slice A m c, .bool true])∧Bits V' cl (actB bs take drop)∧w'.ownsRow w.heap.size 114 2 (.slice A m c) m (wrCells (chgW ln cl bs take drop V'))∧Below w.heap.size w w'
theorem tkW_snoc (ln cl:Nat) (bs:Nat→BK) (l:List (Nat × Nat)) (e:Nat × Nat):tkW ln cl bs (l++[e])=tkW ln cl bs l++[(64 * ln+8 * offB cl e.1,(takenB (bs e.1) e.2).w)]:=by simp [tkW]
theorem drW_snoc (ln cl:Nat) (bs:Nat→BK) (l:List Nat) (i:Nat):drW ln cl bs (l++[i])=drW ln cl bs l++[(64 * ln+8 * offB cl i,(freedB (bs i)).w)]:=by simp [drW]
section
variable {a:DA} {L T:Nat} {w:World} {S:Fp} {cur:Nat→Nat} {F:Nat}
theorem changes_any (h:Dev a L T w S cur F) (ht:Tab w) (hp:Pay w) (ln cl g V:Nat) (bs:Nat→BK) (hl:ln+32≤L) (hC:ChW cur ln cl g V bs)
  (A1 A2 A3:Option Addr) (n1 c1 c2 n3 c3:Nat) (take:List (Nat × Nat)) (drop:List Nat) (h1:Reads w w.heap.size 1 A1 n1 (jCells (take.map (·.1)))) (h2:Reads w w.heap.size 1 A2 n1 (u8s (take.map (·.2)))) (h3:Reads w w.heap.size 1 A3 n3 (jCells drop))
  (hn:(take.map (·.1)++drop).Nodup) (hi1:∀ e∈take,e.1 < perC cl∧(bs e.1).st=176∧0 < e.2∧e.2 < 128) (hi3:∀ i∈drop,i < perC cl∧(bs i).st=177) (hne:0 < n1∨0 < n3) (hn1:n1≤100) (hn3:n3≤100) :
  Calls Tryz.prog 319 #[chV a ln cl 0 g, .slice A1 n1 c1, .slice A2 n1 c2, .slice A3 n3 c3] w (RetChg w ln cl bs take drop):=by
 obtain ⟨_,_,_,_,_,hdc,_⟩:=id h
 have hL:=hdc.hL
 clear hdc
 obtain ⟨j0,hj0,hy0,hy1,hy2⟩:=info_parts infoWrite
 have hb0:Below w.heap.size w (w.alloc (.cells (chCells a ln cl g) 306)):=(Below.refl _ _).alloc (Nat.le_refl _) _
 have HB0:=hid hb0
 have HK:=hid (Blk.new w 306 (chCells a ln cl g))
 have HBi:=hid (bits_any (h.below hb0) ln cl g V hl hC.bits)
 have HRd:Hid (∀ i,i < perC cl→∀ W,Below w.heap.size w W→Calls Tryz.prog 295 #[chV a ln cl 0 g, .int .i64 (i:Int)] W fun e w'=>e = .returned (.tuple #[(bs i).v, .bool true, .bool (bitAt V i)])∧Below W.heap.size W w'):=hid (fun i hi W hW=>read_any (h.below hW) (ht.below hW) (hp.below hW) ln cl g V i (bs i) (hC.inn i hi) hl hC.cls hi hC.v64 hC.bits (hC.word i hi))
 have HAt:Hid (∀ i,i < perC cl→∀ W,Below w.heap.size w W→Calls Tryz.prog 301 #[chV a ln cl 0 g, .int .i64 (i:Int)] W fun e w'=>e = .returned (.int .u64 ((64 * ln+8 * offB cl i:Nat):Int))∧Below W.heap.size W w'):=hid (fun i hi W hW=>blkAt_any ln cl g i (by omega) hC.cls hi W (hp.below hW))
 have HWd:Hid (∀ b:BK,b.In→∀ W,Below w.heap.size w W→Calls Tryz.prog 360 #[b.v] W fun e w'=>e = .returned (.int .u64 (b.w:Int))∧Below W.heap.size W w'):=hid (fun b hb W hW=>bkWord_any b hb W (ht.below hW))
 have HGd:Hid (∀ b:BK,b.In→b.good=true→∀ W,Below w.heap.size w W→Calls Tryz.prog 299 #[b.v] W fun e w'=>e = .returned (.bool true)∧Below W.heap.size W w'):=hid (fun b hb hg W _=>by
  have h:=good_any b hb W
  rw [hg] at h
  exact h)
 have HFd:Hid (∀ b:BK,b.In→∀ W,Below w.heap.size w W→Calls Tryz.prog 361 #[b.v] W fun e w'=>e = .returned (freedB b).v∧Below W.heap.size W w'):=hid (fun b hb W _=>freed_any b hb W)
 have HSt:=hid (start_any ln (by omega))
 have HR1:=hid h1
 have HR2:=hid h2
 have HR3:=hid h3
 have HL1:=hid (show take.length=n1 by have:=h1.1;simp [jCells] at this;omega)
 have HL3:=hid (show drop.length=n3 by have:=h3.1;simp [jCells] at this;omega)
 have HC:=hid hC
 have HNd:=hid hn
 have HI1:=hid hi1
 have HI3:=hid hi3
 have HP62:=hid (per_le cl).2
 have HV0:Hid (Bits V cl bs):=hid ⟨hC.v64,hC.bit,hC.top⟩
 have hbb:(((n1:Int) == 0) && ((n3:Int) == 0))=false:=by
  rw [Bool.and_eq_false_iff,beq_eq_false_iff_ne,beq_eq_false_iff_ne]
  omega
 have HLn:=hid (show ln≤4096 by omega)
 clear h ht hp hl hC h1 h2 h3 hn hi1 hi3 hne hb0
 unfold chV at *
 unfold chCells memV at *
 generalize hW:w.alloc (.cells #[.iface 58 (.pointer (some ⟨a.th 0,0,none⟩)), .int .i64 (ln:Int), .int .i64 (cl:Int), .int .i64 0, .int .u16 (g:Int)] 306)=W at *
 have HWe:=hid hW.symm
 clear hW
 go_enter Tryz.func319,Tryz.ntmps319
 go_upto_region 1 with fail
 go_cut [29] from 22 to 135 (fun v wx=>v = .bool false∧Hid (wx=W))
 case first =>
  rw [← HWe.out]
  by_cases h0:n1=0
  ·have e1:((n1:Int) == 0)=true:=by rw [beq_iff_eq];omega
   have e3:((n3:Int) == 0)=false:=by rw [e1] at hbb;simpa using hbb
   clear h0
   go_wp2_with fail
   go_meet
   exact ⟨rfl,hid rfl⟩
  ·have e1:((n1:Int) == 0)=false:=by rw [beq_eq_false_iff_ne];omega
   clear h0
   go_wp2_with fail
   go_meet
   exact ⟨rfl,hid rfl⟩
 case rest =>
  obtain ⟨rfl,hwc⟩:=hcut
  have hw:=hwc.out
  subst hw
  clear hbb hwc
  have hd0:wc.cell? ⟨w.heap.size,0,none⟩=some (.iface 58 (.pointer (some ⟨a.th 0,0,none⟩))):=HK.out.cell 0
  have hd1:wc.cell? ⟨w.heap.size,1,none⟩=some (.int .i64 (ln:Int)):=HK.out.cell 1
  have hd2:wc.cell? ⟨w.heap.size,2,none⟩=some (.int .i64 (cl:Int)):=HK.out.cell 2
  have hd3:wc.cell? ⟨w.heap.size,3,none⟩=some (.int .i64 0):=HK.out.cell 3
  have hd4:wc.cell? ⟨w.heap.size,4,none⟩=some (.int .u16 (g:Int)):=HK.out.cell 4
  go_wp2_with (go_at_call 351;refine HBi.out.mono ?_;rintro e w1 ⟨rfl,hb1⟩;have HB1:=hid hb1;clear hb1)
  clear hd0 hd1 hd2 hd3 hd4
  have HO0:Hid (w1.ownsRow wc.heap.size 114 2 (.slice none 0 0) 0 (wrCells (tkW ln cl bs (take.take 0)))):=World.ownsRow_nil _ _ _ _
  have HS0:Hid (Bits V cl (tkB bs (take.take 0))):=HV0
  go_loopw [10,11,34] (fun ws v i wr=>∃ (k V' m4 c4:Nat) (A4:Option Addr),k≤n1∧i = .int .i64 k∧v = .int .u64 (V':Int)∧ws = .slice A4 m4 c4∧m4=k∧Hid (Bits V' cl (tkB bs (take.take k)))∧Hid (wr.ownsRow wc.heap.size 114 2 (.slice A4 m4 c4) m4 (wrCells (tkW ln cl bs (take.take k))))∧Hid (Below wc.heap.size wc wr)) (fun _ _ i _=>n1 - (Go.RowKit.intOf i).toNat)
  case atStart=>exact ⟨0,V,0,0,none,Nat.zero_le _,rfl,rfl,rfl,rfl,HS0,HO0,HB1⟩
  case round =>
   clear HS0 HO0 HB1
   obtain ⟨k,V',m4,c4,A4,hk,rfl,rfl,rfl,hm4,HS,HO,H⟩:=hrel
   by_cases hlt:k < n1
   ·have HBr:=hid (HB0.out.trans (H.out.mono HB0.out.size))
    obtain ⟨hl,b,off,hA,hbB,f0⟩:=n_facts (HR1.out.below HBr.out) hlt
    obtain ⟨hl2,b2,off2,hA2,hbB2,fk⟩:=k_facts (HR2.out.below HBr.out) hlt
    subst hA
    subst hA2
    have hlt':k < take.length:=by rw [HL1.out];exact hlt
    have e1:(take.map (·.1))[k]=(take[k]).1:=by simp
    have e2:(take.map (·.2))[k]=(take[k]).2:=by simp
    rw [e1] at f0
    rw [e2] at fk
    obtain ⟨hi,hst,hk0,hk8⟩:=HI1.out take[k] (List.getElem_mem hlt')
    have h62:=HP62.out
    have HS1:Hid (Bits (V' ||| 2 ^ (take[k]).1) cl (tkB bs (take.take (k+1)))):=hid (by rw [List.take_succ_eq_append_getElem hlt',tkB_snoc];exact HS.out.take hi)
    have HTS:Hid (tkW ln cl bs (take.take (k+1))=tkW ln cl bs (take.take k)++[(64 * ln+8 * offB cl (take[k]).1,(takenB (bs (take[k]).1) (take[k]).2).w)]):=hid (by rw [List.take_succ_eq_append_getElem hlt',tkW_snoc])
    have hV64:=HS.out.lt
    generalize take[k]=e0 at *
    obtain ⟨i0,kd⟩:=e0
    dsimp only at *
    have hin:=HC.out.inn i0 hi
    have hgd:=HC.out.good i0 hi
    have hbit:bitAt V i0=false:=by rw [HC.out.bit i0 hi,hst];rfl
    have HRr:=hid (HRd.out i0 hi wr HBr.out)
    rw [hbit] at HRr
    have HG2:=hid (HGd.out (bs i0) hin hgd)
    have HA2:=hid (HAt.out i0 hi)
    have HW2:=hid (HWd.out (takenB (bs i0) kd) (takenB_in hin (by omega)))
    have u2:=shl_one (i:=i0) (by omega)
    have u3:=u64_or_nat V' (2 ^ i0) hV64 (pow_lt64 (by omega))
    have hi62:(i0:Int) < 62:=by omega
    clear e1 e2 hl hl2 hbit hgd HS
    unfold takenB at *
    generalize hbw:(BK.mk (bs i0).gen kd 177).w=bw at *
    generalize hbb:bs i0=bb at *
    obtain ⟨bg,bk0,bs0⟩:=bb
    dsimp only at hst hin
    subst hst
    unfold BK.v at *
    dsimp only at *
    have u1:IntKind.u64.wrap (i0:Int)=(i0:Int):=by rw [IntKind.wrap_u64];omega
    have HEQ:Hid (wrCells (tkW ln cl bs (take.take k))++[.int .u64 ((64 * ln+8 * offB cl i0:Nat):Int), .int .u64 (bw:Int)]=wrCells (tkW ln cl bs (take.take (k+1)))):=hid (by rw [HTS.out];simp [wrCells,hbb,hbw])
    generalize 64 * ln+8 * offB cl i0=y at *
    have hz5:(0:Int)≤(k:Int):=by omega
    have hz6:(k:Int) < (n1:Int):=by omega
    have hi0:(0:Int)≤(i0:Int):=by omega
    have hm4':m4≤100:=by omega
    have HM:=hid hm4
    clear hm4
    generalize (V' ||| 2 ^ i0)=V2 at *
    generalize (2 ^ i0:Nat)=q2 at *
    have hKr:=HK.out.below H.out HK.out.lt
    have hc0:wr.cell? ⟨w.heap.size,0,none⟩=some (.iface 58 (.pointer (some ⟨a.th 0,0,none⟩))):=hKr.cell 0
    have hc1:wr.cell? ⟨w.heap.size,1,none⟩=some (.int .i64 (ln:Int)):=hKr.cell 1
    have hc2:wr.cell? ⟨w.heap.size,2,none⟩=some (.int .i64 (cl:Int)):=hKr.cell 2
    have hc3:wr.cell? ⟨w.heap.size,3,none⟩=some (.int .i64 0):=hKr.cell 3
    have hc4:wr.cell? ⟨w.heap.size,4,none⟩=some (.int .u16 (g:Int)):=hKr.cell 4
    clear hKr
    have h176:((176:Nat):Int)=176:=rfl
    rw [h176] at HRr HG2
    clear h176
    go_wp2_with (go_at_call 295;refine HRr.out.mono ?_;rintro e w2 ⟨rfl,hb2⟩;refine stop ?_)
    unfold Stop
    clear hc0 hc1 hc2 hc3 hc4
    have HBa:=hid ((H.out.trans (hb2.mono H.out.size)).alloc (Nat.le_trans H.out.size hb2.size) (.cells #[.int .u16 (bg:Int), .int .u8 (bk0:Int), .int .u8 176] 401))
    have HBaw:=hid (HB0.out.trans (HBa.out.mono HB0.out.size))
    have HOa:=hid ((own_below HO.out hb2).alloc (.cells #[.int .u16 (bg:Int), .int .u8 (bk0:Int), .int .u8 176] 401))
    have HKa:=hid (Blk.new w2 401 #[.int .u16 (bg:Int), .int .u8 (bk0:Int), .int .u8 176])
    have HLa:=hid (Nat.le_trans H.out.size hb2.size)
    clear hb2 HRr H HO
    go_wp2_with (go_at_call 299;refine (HG2.out _ HBaw.out).mono ?_;rintro e w3 ⟨rfl,hb3⟩;refine stop ?_)
    unfold Stop
    have HB3:=hid (HBa.out.trans (hb3.mono HBa.out.size))
    have HB3w:=hid (HBaw.out.trans (hb3.mono HBaw.out.size))
    have HO3:=hid (own_below HOa.out hb3)
    have HK3:=hid (HKa.out.below hb3 HKa.out.lt)
    have x1:w3.cell? ⟨w2.heap.size,1,none⟩=some (.int .u8 (bk0:Int)):=HK3.out.cell 1
    have x2:w3.cell? ⟨w2.heap.size,2,none⟩=some (.int .u8 176):=HK3.out.cell 2
    have y1:w3.frozen? ⟨w2.heap.size,1,none⟩=false:=HK3.out.frozen 1
    have y2:w3.frozen? ⟨w2.heap.size,2,none⟩=false:=HK3.out.frozen 2
    have fk3:w3.cell? ⟨b2,off2+k,none⟩=some (.int .u8 (kd:Int)):=(HB3w.out.cell (Nat.lt_of_lt_of_le hbB2 (Nat.le_refl _))).trans (((HBr.out.cell (Nat.lt_of_lt_of_le hbB2 (Nat.le_refl _))).symm.trans fk))
    clear hb3 HBa HBaw HOa HKa HG2 f0 fk
    go_wp2_with fail
    have hBk:=(HK3.out.set_ 1 (.int .u8 (kd:Int))).set_ 2 (.int .u8 177)
    have HKk:=hid (((HK.out.below HB3.out HK.out.lt).far (p:=⟨w2.heap.size,1,none⟩) (by have:=HK.out.lt;have:=HLa.out;show w.heap.size≠w2.heap.size;omega) (.int .u8 (kd:Int))).far (p:=⟨w2.heap.size,2,none⟩) (by have:=HK.out.lt;have:=HLa.out;show w.heap.size≠w2.heap.size;omega) (.int .u8 177))
    have hne3:(Value.slice A4 m4 c4).ownBlock≠some w2.heap.size:=fun e=>own_blk_ne HO3.out HK3.out (by decide) e
    have HOk:=hid (ownsRow_setCell_other (ownsRow_setCell_other HO3.out (a:=⟨w2.heap.size,1,none⟩) hne3 (.int .u8 (kd:Int))) (a:=⟨w2.heap.size,2,none⟩) hne3 (.int .u8 177))
    have HBkc:=hid ((HB3.out.setCell (p:=⟨w2.heap.size,1,none⟩) HLa.out (.int .u8 (kd:Int))).setCell (p:=⟨w2.heap.size,2,none⟩) HLa.out (.int .u8 177))
    have HBkw:=hid (HB0.out.trans (HBkc.out.mono HB0.out.size))
    clear x1 x2 y1 y2 fk3 hne3 HB3 HB3w HO3 HK3
    generalize (w3.setCell ⟨w2.heap.size,1,none⟩ (.int .u8 (kd:Int))).setCell ⟨w2.heap.size,2,none⟩ (.int .u8 177)=wk at *
    generalize w2.heap.size=p2 at *
    have HBk:=hid hBk
    refine wp_region_script (fun w'=>Below wk.heap.size wk w') 8 [(true,0),(true,1),(true,2),(true,4),(false,3),(false,5),(true,6),(false,7)] (by kernel_rfl) (by kernel_rfl) (Below.refl _ _).drew ?_
    refine wpScript_take (.slice A4 m4 c4) (by rfl) (by rfl) (fun w' hS=>?_) ?_
    ·go_simp
    simp only [zA,zB,Act.put,zD,zE,zF]
    refine wpScript_take (.agg #[.iface 58 (.pointer (some ⟨a.th 0,0,none⟩)), .int .i64 (ln:Int), .int .i64 (cl:Int), .int .i64 0, .int .u16 (g:Int)]) (by rfl) (by rfl) (fun w' hS=>?_) ?_
    ·have hKr:=HKk.out.below hS HKk.out.lt
     have f0:w'.cell? ⟨w.heap.size,0,none⟩=some (.iface 58 (.pointer (some ⟨a.th 0,0,none⟩))):=hKr.cell 0
     have f1:w'.cell? ⟨w.heap.size,1,none⟩=some (.int .i64 (ln:Int)):=hKr.cell 1
     have f2:w'.cell? ⟨w.heap.size,2,none⟩=some (.int .i64 (cl:Int)):=hKr.cell 2
     have f3:w'.cell? ⟨w.heap.size,3,none⟩=some (.int .i64 0):=hKr.cell 3
     have f4:w'.cell? ⟨w.heap.size,4,none⟩=some (.int .u16 (g:Int)):=hKr.cell 4
     go_simp
    simp only [zA,zB,zC,Act.put,zD,zE,zF]
    refine wpScript_take (.int .i64 (i0:Int)) (by rfl) (by rfl) (fun w' hS=>?_) ?_
    ·go_simp
    simp only [zA,zB,zC,Act.put,zD,zE,zF]
    refine wpScript_take (.agg #[.int .u16 (bg:Int), .int .u8 (kd:Int), .int .u8 177]) (by rfl) (by rfl) (fun w' hS=>?_) ?_
    ·have hKr:=HBk.out.below hS HBk.out.lt
     have f0:w'.cell? ⟨p2,0,none⟩=some (.int .u16 (bg:Int)):=hKr.cell 0
     have f1:w'.cell? ⟨p2,1,none⟩=some (.int .u8 (kd:Int)):=hKr.cell 1
     have f2:w'.cell? ⟨p2,2,none⟩=some (.int .u8 177):=hKr.cell 2
     go_simp
    simp only [zA,zB,zC,Act.put,zD,zE,zF]
    refine wpScript_do (by rfl) ?_
    go_wp2_with fail
    refine (HA2.out _ HBkw.out.drew).mono ?_
    rintro e w4 ⟨rfl,hb4⟩
    have HB4:=hid ((Below.refl wk.heap.size wk).drew.trans hb4)
    have HB4w:=hid (HBkw.out.trans (HB4.out.mono HBkw.out.size))
    clear hb4
    go_wp2_with fail
    refine ⟨HB4.out,?_⟩
    refine wpScript_do (by rfl) ?_
    go_wp2_with fail
    refine (HW2.out _ HB4w.out).mono ?_
    rintro e w5 ⟨rfl,hb5⟩
    have HB5:=hid (HB4.out.trans (hb5.mono HB4.out.size))
    clear hb5 HB4w
    go_wp2_with fail
    refine ⟨HB5.out,?_⟩
    refine wpScript_take (.agg #[.int .u64 (y:Int), .int .u64 (bw:Int)]) (by rfl) (by rfl) (fun w' hS=>?_) ?_
    ·go_simp
    simp only [zA,zB,zC,Act.put,zD,zE,zF]
    refine wpScript_do (by rfl) ?_
    go_wp2_with fail
    have HB6:=hid (HB5.out.alloc HB5.out.size (.cells #[.int .u64 (y:Int), .int .u64 (bw:Int)] 114))
    have HOk2:=hid ((own_below HOk.out HB5.out).alloc (.cells #[.int .u64 (y:Int), .int .u64 (bw:Int)] 114))
    have HBx:=hid (HBkc.out.trans (HB6.out.mono HBkc.out.size))
    have HLE:=hid HB5.out.size
    have HLE2:=hid HBkc.out.size
    refine ⟨HB6.out,?_⟩
    show wpList _ _ _ _ _ _
    simp only [List.drop_succ_cons,List.drop_zero]
    clear HB4 HB5 HB6 HBk HKk HOk HBkc HBkw HA2 HW2
    go_wp2_with (at_builtin;refine wpList_app _ (.tmp 67) (.tmp 74) 108 rfl rfl wc.heap.size 114 j0 _ 2 16 Tryz.underlying108 hj0 hy0 hy1 hy2 rfl ?q1 (.slice A4 m4 c4) m4 (wrCells (tkW ln cl bs (take.take k))) rfl HOk2.out (w5.heap.size+1) (some ⟨w5.heap.size,0,none⟩) 1 1 [.int .u64 (y:Int), .int .u64 (bw:Int)] rfl ?q5 ?q6 ?q2 ?q3 ?q4 ?_;(case q1=>omega);(case q5=>exact row_reads_at _ _ rfl _ 1 2 114 _ rfl rfl);(case q6=>(intro u hu;simp at hu;rcases hu with rfl | rfl <;> rfl));(case q2=>(unfold maxLen;omega));(case q3=>omega);(case q4=>(have:=HLE.out;have:=HLE2.out;simp;omega));intro A7 n7 c7 w8 hn7 ho7 hg7 hb7;have HN7:=hid hn7;have HO7:=hid ho7;have HB7:=hid (HBx.out.trans hb7);have hg78:=hg7;clear hn7 ho7 hg7 hb7)
    have HO8:Hid (w8.ownsRow wc.heap.size 114 2 (.slice A7 n7 c7) n7 (wrCells (tkW ln cl bs (take.take (k+1))))):=hid (by have h:=HO7.out;rw [HEQ.out] at h;exact h)
    clear HO7 HOk2 HBx
    clear hg78
    refine NoPanic.normal ?_
    have hn7:n7=k+1:=by have:=HN7.out;have:=HM.out;omega
    go_wp2
    go_roundw
    case rel =>
     first
      | exact ⟨k+1,V2,n7,c7,A7,by omega,by go_num,rfl,rfl,hn7,HS1,HO8,HB7⟩
      | (
        repeat apply Exists.intro
        refine ⟨?_,rfl⟩
        exact ⟨k+1,V2,n7,c7,A7,by omega,by go_num,rfl,rfl,hn7,HS1,HO8,HB7⟩)
    case measure=>simp [Go.RowKit.intOf];omega
   ·have hkn:k=n1:=by omega
    subst hkn
    have HS0:Hid (Bits V' cl (drB bs (tkB bs take) (drop.take 0))):=hid (by
     have h:=HS.out
     rw [List.take_of_length_le (by rw [HL1.out];exact Nat.le_refl _)] at h
     exact h)
    have HO0:Hid (wr.ownsRow wc.heap.size 114 2 (.slice A4 m4 c4) m4 (wrCells (tkW ln cl bs take++drW ln cl bs (drop.take 0)))):=hid (by
     have h:=HO.out
     rw [List.take_of_length_le (by rw [HL1.out];exact Nat.le_refl _)] at h
     simpa [drW] using h)
    have HM4:=hid hm4
    clear HS HO hk hlt hm4
    go_wp2
    go_loopw [10,11,84] (fun ws v i wr=>∃ (k V' m5 c5:Nat) (A5:Option Addr),k≤n3∧i = .int .i64 k∧v = .int .u64 (V':Int)∧ws = .slice A5 m5 c5∧m5=m4+k∧Hid (Bits V' cl (drB bs (tkB bs take) (drop.take k)))∧Hid (wr.ownsRow wc.heap.size 114 2 (.slice A5 m5 c5) m5 (wrCells (tkW ln cl bs take++drW ln cl bs (drop.take k))))∧Hid (Below wc.heap.size wc wr)) (fun _ _ i _=>n3 - (Go.RowKit.intOf i).toNat)
    case atStart=>exact ⟨0,V',m4,c4,A4,Nat.zero_le _,rfl,rfl,rfl,rfl,HS0,HO0,H⟩
    case round =>
     clear HS0 HO0 H
     obtain ⟨k3,V3,m5,c5,A5,hk,rfl,rfl,rfl,hm5,HS,HO,H⟩:=hrel
     by_cases hlt:k3 < n3
     ·have HBr:=hid (HB0.out.trans (H.out.mono HB0.out.size))
      obtain ⟨hl,b,off,hA,hbB,f0⟩:=n_facts (HR3.out.below HBr.out) hlt
      subst hA
      obtain ⟨hi,hst⟩:=HI3.out drop[k3] (List.getElem_mem hl)
      have h62:=HP62.out
      have hnd:=List.nodup_append.1 HNd.out
      have hbk:(drB bs (tkB bs take) (drop.take k3)) drop[k3]=bs drop[k3]:=by
       unfold drB
       rw [foldB_out (fun i=>i) (fun i=>freedB (bs i)) drop[k3] (drop.take k3) (tkB bs take) ?_]
       ·exact foldB_out (fun e:Nat × Nat=>e.1) (fun e=>takenB (bs e.1) e.2) drop[k3] take bs (fun hh=>hnd.2.2 _ hh _ (List.getElem_mem hl) rfl)
       ·intro hh
        rw [List.map_id'] at hh
        obtain ⟨j,hj,he⟩:=List.getElem_of_mem hh
        have hj2:j < k3:=by simp at hj;omega
        have he2:drop[j]=drop[k3]:=by rw [← he];simp
        exact (List.pairwise_iff_getElem.1 hnd.2.1) j k3 (by omega) hl hj2 he2
      have HS1:Hid (Bits (if (freedB (bs drop[k3])).st=176 then V3 ^^^ 2 ^ drop[k3] else V3) cl (drB bs (tkB bs take) (drop.take (k3+1)))):=hid (by rw [List.take_succ_eq_append_getElem hl,drB_snoc];exact HS.out.drop hi (by rw [hbk];exact hst))
      have HTS:Hid (drW ln cl bs (drop.take (k3+1))=drW ln cl bs (drop.take k3)++[(64 * ln+8 * offB cl drop[k3],(freedB (bs drop[k3])).w)]):=hid (by rw [List.take_succ_eq_append_getElem hl,drW_snoc])
      have hV64:=HS.out.lt
      have hbt:bitAt V3 drop[k3]=true:=by rw [HS.out.bit _ hi,hbk,hst];rfl
      clear hbk hnd HS
      generalize drop[k3]=i0 at *
      have hin:=HC.out.inn i0 hi
      have hbit:bitAt V i0=true:=by rw [HC.out.bit i0 hi,hst];rfl
      have HRr:=hid (HRd.out i0 hi wr HBr.out)
      rw [hbit] at HRr
      have HF2:=hid (HFd.out (bs i0) hin)
      have HA2:=hid (HAt.out i0 hi)
      have HW2:=hid (HWd.out (freedB (bs i0)) (freedB_in hin))
      have u2:=shl_one (i:=i0) (by omega)
      have u3:=u64_andNot_nat V3 i0 hV64 (by omega) hbt
      have hi62:(i0:Int) < 62:=by omega
      clear hl hbit hbt
      generalize hfb:freedB (bs i0)=fb at *
      generalize hbw:fb.w=bw at *
      generalize hbb:bs i0=bb at *
      obtain ⟨bg0,bk0,bs0⟩:=bb
      obtain ⟨bg,bk,bst⟩:=fb
      dsimp only at hst hin HS1
      subst hst
      unfold BK.v at *
      dsimp only at *
      have u1:IntKind.u64.wrap (i0:Int)=(i0:Int):=by rw [IntKind.wrap_u64];omega
      have HEQ:Hid (wrCells (tkW ln cl bs take++drW ln cl bs (drop.take k3))++[.int .u64 ((64 * ln+8 * offB cl i0:Nat):Int), .int .u64 (bw:Int)]=wrCells (tkW ln cl bs take++drW ln cl bs (drop.take (k3+1)))):=hid (by rw [HTS.out];simp [wrCells])
      generalize 64 * ln+8 * offB cl i0=y at *
      have hz5:(0:Int)≤(k3:Int):=by omega
      have hz6:(k3:Int) < (n3:Int):=by omega
      have hi0:(0:Int)≤(i0:Int):=by omega
      have hm4':m5≤200:=by have:=HM4.out;omega
      have HM:=hid hm5
      clear hm5
      generalize (V3 ^^^ 2 ^ i0)=V2 at *
      generalize (2 ^ i0:Nat)=q2 at *
      clear HTS hfb hbw hbb
      have hKr:=HK.out.below H.out HK.out.lt
      have hc0:wr.cell? ⟨w.heap.size,0,none⟩=some (.iface 58 (.pointer (some ⟨a.th 0,0,none⟩))):=hKr.cell 0
      have hc1:wr.cell? ⟨w.heap.size,1,none⟩=some (.int .i64 (ln:Int)):=hKr.cell 1
      have hc2:wr.cell? ⟨w.heap.size,2,none⟩=some (.int .i64 (cl:Int)):=hKr.cell 2
      have hc3:wr.cell? ⟨w.heap.size,3,none⟩=some (.int .i64 0):=hKr.cell 3
      have hc4:wr.cell? ⟨w.heap.size,4,none⟩=some (.int .u16 (g:Int)):=hKr.cell 4
      clear hKr
      have h177:((177:Nat):Int)=177:=rfl
      rw [h177] at HRr HF2
      clear h177
      go_wp2_with (go_at_call 295;refine HRr.out.mono ?_;rintro e w2 ⟨rfl,hb2⟩;refine stop ?_)
      unfold Stop
      clear hc0 hc1 hc2 hc3 hc4
      have HBa:=hid ((H.out.trans (hb2.mono H.out.size)).alloc (Nat.le_trans H.out.size hb2.size) (.cells #[.int .u16 (bg0:Int), .int .u8 (bk0:Int), .int .u8 177] 401))
      have HBaw:=hid (HB0.out.trans (HBa.out.mono HB0.out.size))
      have HOa:=hid ((own_below HO.out hb2).alloc (.cells #[.int .u16 (bg0:Int), .int .u8 (bk0:Int), .int .u8 177] 401))
      have HKa:=hid (Blk.new w2 401 #[.int .u16 (bg0:Int), .int .u8 (bk0:Int), .int .u8 177])
      have HLa:=hid (Nat.le_trans H.out.size hb2.size)
      clear hb2 HRr H HO
      go_wp2_with (go_at_call 361;refine (HF2.out _ HBaw.out).mono ?_;rintro e w3 ⟨rfl,hb3⟩;refine stop ?_)
      unfold Stop
      have HB3:=hid (HBa.out.trans (hb3.mono HBa.out.size))
      have HO3:=hid (own_below HOa.out hb3)
      have HK3:=hid (HKa.out.below hb3 HKa.out.lt)
      have x0:w3.cell? ⟨w2.heap.size,0,none⟩=some (.int .u16 (bg0:Int)):=HK3.out.cell 0
      have x1:w3.cell? ⟨w2.heap.size,1,none⟩=some (.int .u8 (bk0:Int)):=HK3.out.cell 1
      have x2:w3.cell? ⟨w2.heap.size,2,none⟩=some (.int .u8 177):=HK3.out.cell 2
      have y0:w3.frozen? ⟨w2.heap.size,0,none⟩=false:=HK3.out.frozen 0
      have y1:w3.frozen? ⟨w2.heap.size,1,none⟩=false:=HK3.out.frozen 1
      have y2:w3.frozen? ⟨w2.heap.size,2,none⟩=false:=HK3.out.frozen 2
      clear hb3 HBa HBaw HOa HKa HF2 f0
      go_wp2_with fail
      have hBk:=((HK3.out.set_ 0 (.int .u16 (bg:Int))).set_ 1 (.int .u8 (bk:Int))).set_ 2 (.int .u8 (bst:Int))
      have hfar:w.heap.size≠w2.heap.size:=by have:=HK.out.lt;have:=HLa.out;omega
      have HKk:=hid ((((HK.out.below HB3.out HK.out.lt).far (p:=⟨w2.heap.size,0,none⟩) hfar (.int .u16 (bg:Int))).far (p:=⟨w2.heap.size,1,none⟩) hfar (.int .u8 (bk:Int))).far (p:=⟨w2.heap.size,2,none⟩) hfar (.int .u8 (bst:Int)))
      have hne3:(Value.slice A5 m5 c5).ownBlock≠some w2.heap.size:=fun e=>own_blk_ne HO3.out HK3.out (by decide) e
      have HOk:=hid (ownsRow_setCell_other (ownsRow_setCell_other (ownsRow_setCell_other HO3.out (a:=⟨w2.heap.size,0,none⟩) hne3 (.int .u16 (bg:Int))) (a:=⟨w2.heap.size,1,none⟩) hne3 (.int .u8 (bk:Int))) (a:=⟨w2.heap.size,2,none⟩) hne3 (.int .u8 (bst:Int)))
      have HBkc:=hid (((HB3.out.setCell (p:=⟨w2.heap.size,0,none⟩) HLa.out (.int .u16 (bg:Int))).setCell (p:=⟨w2.heap.size,1,none⟩) HLa.out (.int .u8 (bk:Int))).setCell (p:=⟨w2.heap.size,2,none⟩) HLa.out (.int .u8 (bst:Int)))
      have HBkw:=hid (HB0.out.trans (HBkc.out.mono HB0.out.size))
      clear x0 x1 x2 y0 y1 y2 hne3 hfar HB3 HO3 HK3
      generalize ((w3.setCell ⟨w2.heap.size,0,none⟩ (.int .u16 (bg:Int))).setCell ⟨w2.heap.size,1,none⟩ (.int .u8 (bk:Int))).setCell ⟨w2.heap.size,2,none⟩ (.int .u8 (bst:Int))=wk at *
      generalize w2.heap.size=p2 at *
      have HBk:=hid hBk
      refine wp_region_script (fun w'=>Below wk.heap.size wk w') 8 [(true,0),(true,1),(true,2),(true,4),(false,3),(false,5),(true,6),(false,7)] (by kernel_rfl) (by kernel_rfl) (Below.refl _ _).drew ?_
      refine wpScript_take (.slice A5 m5 c5) (by rfl) (by rfl) (fun w' hS=>?_) ?_
      ·go_simp
      simp only [zA,zB,Act.put,zD,zE,zF]
      refine wpScript_take (.agg #[.iface 58 (.pointer (some ⟨a.th 0,0,none⟩)), .int .i64 (ln:Int), .int .i64 (cl:Int), .int .i64 0, .int .u16 (g:Int)]) (by rfl) (by rfl) (fun w' hS=>?_) ?_
      ·have hKr:=HKk.out.below hS HKk.out.lt
       have f0:w'.cell? ⟨w.heap.size,0,none⟩=some (.iface 58 (.pointer (some ⟨a.th 0,0,none⟩))):=hKr.cell 0
       have f1:w'.cell? ⟨w.heap.size,1,none⟩=some (.int .i64 (ln:Int)):=hKr.cell 1
       have f2:w'.cell? ⟨w.heap.size,2,none⟩=some (.int .i64 (cl:Int)):=hKr.cell 2
       have f3:w'.cell? ⟨w.heap.size,3,none⟩=some (.int .i64 0):=hKr.cell 3
       have f4:w'.cell? ⟨w.heap.size,4,none⟩=some (.int .u16 (g:Int)):=hKr.cell 4
       go_simp
      simp only [zA,zB,zC,Act.put,zD,zE,zF]
      refine wpScript_take (.int .i64 (i0:Int)) (by rfl) (by rfl) (fun w' hS=>?_) ?_
      ·go_simp
      simp only [zA,zB,zC,Act.put,zD,zE,zF]
      refine wpScript_take (.agg #[.int .u16 (bg:Int), .int .u8 (bk:Int), .int .u8 (bst:Int)]) (by rfl) (by rfl) (fun w' hS=>?_) ?_
      ·have hKr:=HBk.out.below hS HBk.out.lt
       have f0:w'.cell? ⟨p2,0,none⟩=some (.int .u16 (bg:Int)):=hKr.cell 0
       have f1:w'.cell? ⟨p2,1,none⟩=some (.int .u8 (bk:Int)):=hKr.cell 1
       have f2:w'.cell? ⟨p2,2,none⟩=some (.int .u8 (bst:Int)):=hKr.cell 2
       go_simp
      simp only [zA,zB,zC,Act.put,zD,zE,zF]
      refine wpScript_do (by rfl) ?_
      go_wp2_with fail
      refine (HA2.out _ HBkw.out.drew).mono ?_
      rintro e w4 ⟨rfl,hb4⟩
      have HB4:=hid ((Below.refl wk.heap.size wk).drew.trans hb4)
      have HB4w:=hid (HBkw.out.trans (HB4.out.mono HBkw.out.size))
      clear hb4
      go_wp2_with fail
      refine ⟨HB4.out,?_⟩
      refine wpScript_do (by rfl) ?_
      go_wp2_with fail
      refine (HW2.out _ HB4w.out).mono ?_
      rintro e w5 ⟨rfl,hb5⟩
      have HB5:=hid (HB4.out.trans (hb5.mono HB4.out.size))
      clear hb5 HB4w
      go_wp2_with fail
      refine ⟨HB5.out,?_⟩
      refine wpScript_take (.agg #[.int .u64 (y:Int), .int .u64 (bw:Int)]) (by rfl) (by rfl) (fun w' hS=>?_) ?_
      ·go_simp
      simp only [zA,zB,zC,Act.put,zD,zE,zF]
      refine wpScript_do (by rfl) ?_
      go_wp2_with fail
      have HB6:=hid (HB5.out.alloc HB5.out.size (.cells #[.int .u64 (y:Int), .int .u64 (bw:Int)] 114))
      have HOk2:=hid ((own_below HOk.out HB5.out).alloc (.cells #[.int .u64 (y:Int), .int .u64 (bw:Int)] 114))
      have HBx:=hid (HBkc.out.trans (HB6.out.mono HBkc.out.size))
      have HLE:=hid HB5.out.size
      have HLE2:=hid HBkc.out.size
      refine ⟨HB6.out,?_⟩
      show wpList _ _ _ _ _ _
      simp only [List.drop_succ_cons,List.drop_zero]
      have HBk8:=hid (HBk.out.below HB6.out HBk.out.lt)
      have HNE:Hid (some p2≠(Value.slice A5 m5 c5).ownBlock):=hid (fun e=>own_blk_ne HOk2.out HBk8.out (by decide) e.symm)
      clear HB4 HB5 HB6 HBk HKk HOk HBkc HBkw HA2 HW2
      go_wp2_with (at_builtin;refine wpList_app _ (.tmp 108) (.tmp 115) 108 rfl rfl wc.heap.size 114 j0 _ 2 16 Tryz.underlying108 hj0 hy0 hy1 hy2 rfl ?q1 (.slice A5 m5 c5) m5 (wrCells (tkW ln cl bs take++drW ln cl bs (drop.take k3))) rfl HOk2.out (w5.heap.size+1) (some ⟨w5.heap.size,0,none⟩) 1 1 [.int .u64 (y:Int), .int .u64 (bw:Int)] rfl ?q5 ?q6 ?q2 ?q3 ?q4 ?_;(case q1=>omega);(case q5=>exact row_reads_at _ _ rfl _ 1 2 114 _ rfl rfl);(case q6=>(intro u hu;simp at hu;rcases hu with rfl | rfl <;> rfl));(case q2=>(unfold maxLen;omega));(case q3=>omega);(case q4=>(have:=HLE.out;have:=HLE2.out;simp;omega));intro A7 n7 c7 w8 hn7 ho7 hg7 hb7;have HN7:=hid hn7;have HO7:=hid ho7;have HB7:=hid (HBx.out.trans hb7);have hg78:=hg7;clear hn7 ho7 hg7 hb7)
      have HO8:Hid (w8.ownsRow wc.heap.size 114 2 (.slice A7 n7 c7) n7 (wrCells (tkW ln cl bs take++drW ln cl bs (drop.take (k3+1))))):=hid (by have h:=HO7.out;rw [HEQ.out] at h;exact h)
      clear HO7 HOk2 HBx
      have hn7:n7=m4+(k3+1):=by have:=HN7.out;have:=HM.out;omega
      clear HN7
      refine NoPanic.normal ?_
      have x2:w8.cell? ⟨p2,2,none⟩=some (.int .u8 (bst:Int)):=(HBk8.out.grown hg78 HNE.out).cell 2
      clear hg78 HNE
      by_cases h176:bst=176
      ·rw [if_pos h176] at HS1
       have e5:((bst:Int) == 176)=true:=by rw [beq_iff_eq];omega
       have e6:(bst:Int)=176:=by omega
       clear h176
       go_wp2
       go_roundw
       case rel =>
        first
         | exact ⟨k3+1,V2,n7,c7,A7,by omega,by go_num,rfl,rfl,hn7,HS1,HO8,HB7⟩
         | (
           repeat apply Exists.intro
           refine ⟨?_,rfl⟩
           exact ⟨k3+1,V2,n7,c7,A7,by omega,by go_num,rfl,rfl,hn7,HS1,HO8,HB7⟩)
       case measure=>simp [Go.RowKit.intOf];omega
      ·rw [if_neg h176] at HS1
       have e5:((bst:Int) == 176)=false:=by rw [beq_eq_false_iff_ne];omega
       have e6:¬ (bst:Int)=176:=by omega
       clear h176
       go_wp2
       go_roundw
       case rel =>
        first
         | exact ⟨k3+1,V3,n7,c7,A7,by omega,by go_num,rfl,rfl,hn7,HS1,HO8,HB7⟩
         | (
           repeat apply Exists.intro
           refine ⟨?_,rfl⟩
           exact ⟨k3+1,V3,n7,c7,A7,by omega,by go_num,rfl,rfl,hn7,HS1,HO8,HB7⟩)
       case measure=>simp [Go.RowKit.intOf];omega
     ·have hkn:k3=n3:=by omega
      subst hkn
      have HS1:Hid (Bits V3 cl (actB bs take drop)):=hid (by
       have h:=HS.out
       rw [List.take_of_length_le (by rw [HL3.out];exact Nat.le_refl _)] at h
       exact h)
      have HO1:Hid (wr.ownsRow wc.heap.size 114 2 (.slice A5 m5 c5) m5 (wrCells (tkW ln cl bs take++drW ln cl bs drop))):=hid (by
       have h:=HO.out
       rw [List.take_of_length_le (by rw [HL3.out];exact Nat.le_refl _)] at h
       exact h)
      have hm6:m5≤200:=by have:=HM4.out;omega
      have HLE:=hid H.out.size
      have hq1:wr.cell? ⟨w.heap.size,1,none⟩=some (.int .i64 (ln:Int)):=(HK.out.below H.out HK.out.lt).cell 1
      have HCW:Hid (wrCells (tkW ln cl bs take++drW ln cl bs drop)++[.int .u64 ((64 * ln+8:Nat):Int), .int .u64 (V3:Int)]=wrCells (chgW ln cl bs take drop V3)):=hid (by unfold chgW;simp [wrCells])
      have hl4:=HLn.out
      have u1:IntKind.u64.wrap (((64 * ln:Nat):Int)+8)=((64 * ln+8:Nat):Int):=by rw [IntKind.wrap_u64];omega
      have hz8:64 * ln+8 < 9000000000:=by omega
      generalize 64 * ln+8=z8 at *
      generalize 64 * ln=z at *
      have HOD:=hid (HO1.out.alloc (.cells #[.int .u64 (z8:Int), .int .u64 (V3:Int)] 114))
      have HBD:=hid (H.out.alloc H.out.size (.cells #[.int .u64 (z8:Int), .int .u64 (V3:Int)] 114))
      clear HS HO HO1 H hk hlt hm5 HRd HAt HWd HGd HFd
      go_wp2_with (first
       | (go_at_call 339;refine (HSt.out _).mono ?_;rintro e w3 ⟨rfl,rfl⟩)
       | (at_builtin;refine wpList_app _ (.tmp 126) (.tmp 133) 108 rfl rfl wc.heap.size 114 j0 _ 2 16 Tryz.underlying108 hj0 hy0 hy1 hy2 rfl ?q1 (.slice A5 m5 c5) m5 (wrCells (tkW ln cl bs take++drW ln cl bs drop)) rfl HOD.out (wr.heap.size+1) (some ⟨wr.heap.size,0,none⟩) 1 1 [.int .u64 (z8:Int), .int .u64 (V3:Int)] rfl ?q5 ?q6 ?q2 ?q3 ?q4 ?_;(case q1=>omega);(case q5=>exact row_reads_at _ _ rfl _ 1 2 114 _ rfl rfl);(case q6=>(intro u hu;simp at hu;rcases hu with rfl | rfl <;> rfl));(case q2=>(unfold maxLen;omega));(case q3=>omega);(case q4=>(have:=HLE.out;simp;omega));intro A6 n6 c6 w8 hn6 ho6 hg6 hb6;have HO6:=hid ho6;have HB6:=hid (HBD.out.trans hb6);clear hn6 ho6 hg6 hb6)
       | go_in)
      go_ret2
      have HO7:=own_le (base':=w.heap.size) HO6.out HB0.out.size
      rw [HCW.out] at HO7
      exact ⟨_,_,_,V3,rfl,HS1.out,HO7,HB0.out.trans (HB6.out.mono HB0.out.size)⟩
end
end
end Go.Proofs.YtfkjjoglnmeciaaGreatDoor
