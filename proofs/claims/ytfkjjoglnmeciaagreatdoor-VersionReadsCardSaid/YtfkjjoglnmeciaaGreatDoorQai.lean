/- The walks and laws that the claim leans on, part 9. -/
import Derived.Test.YtfkjjoglnmeciaaGreatDoorQah
import Derived.Test.YtfkjjoglnmeciaaGreatDoorCards
import Derived.Test.YtfkjjoglnmeciaaGreatDoorTie
import Derived.ProofKit
import Derived.OpenShut
import Derived.Deep.DeepHandedRow
import Derived.Lib.LaidTab
import Derived.Deep.Fields
set_option maxRecDepth 100000
set_option maxHeartbeats 16000000
namespace Go.Proofs.YtfkjjoglnmeciaaGreatDoor
open Go.Lib (hid)
section
open Go.ChangeShapes Go.WideShapes Go.ChangeAt Go.RowKit
theorem ownK:ownKnob Tryz.prog.godebug=none:=by kernel_rfl
theorem laidOut:laidOutB Tryz.prog=true:=by kernel_rfl
theorem gTab : Tryz.prog.globalNamed "bedrock/crc.nibbles" = some 1 := by kernel_rfl
theorem gTabType:(Tryz.prog.globals[1]?).map (·.type)=some 470:=by kernel_rfl
theorem cellsTab:Tryz.prog.cellsOf 470=16:=by kernel_rfl
theorem cellsU32:Tryz.prog.cellsOf 324=1:=by kernel_rfl
def laidList : List (String × DataW Unit) := [("bedrock/crc.nibbles", Rows.laid_bedrock_crc_nibbles), ("bedrock/sizeclass.payload", Rows.laid_bedrock_sizeclass_payload)]
theorem table {W:World} (h:laidMetH Tryz.prog laidList W):Tab W:=by
 have ht : Lib.TabIs Tryz.prog W "bedrock/crc.nibbles" .u32 (Crc.nib.map fun (n : Nat) => (n : Int)) :=
  Lib.tabIs_of_head (rest := [("bedrock/sizeclass.payload", Rows.laid_bedrock_sizeclass_payload)]) gTab gTabType Tryz.underlying470 Tryz.underlying324 cellsU32 cellsTab h
 intro i hi;have:=ht.cell gTab i (by simpa [Crc.nib] using hi);rw [this];have hl:i < Crc.nib.length:=by simpa [Crc.nib] using hi
 simp [List.getD,hl]
def nibObj:Obj→Obj
 | .cells _ t frozen => .cells (Crc.nib.map fun (n:Nat)=>Value.int .u32 (n:Int)).toArray t frozen
 | o=>o
def payObj:Obj→Obj
 | .cells _ t frozen => .cells #[.int .i64 3, .int .i64 7, .int .i64 15, .int .i64 31, .int .i64 60] t frozen
 | o=>o
noncomputable def laidWorld (os:Os):World :=
 { World.holding Tryz.prog os ⟨#[],#[],[]⟩ with heap:=((World.holding Tryz.prog os ⟨#[],#[],[]⟩).heap.modify 1 nibObj).modify 0 payObj }
section
variable {H:Type} {enc:TypeId × Value→H} {W:World} {b0 base:Nat} {sp:Nat→Bool} {held:Bool} {v:Value} {d:DataW H} {p:List MemPlace} {r:Reach}
end
end
section
open Go.RowKit
def sealB (x:Nat):List Nat:=[x % 256,x / 256 % 256,x / 65536 % 256,x / 16777216 % 256]
def sealW (x:Nat):Nat:=Crc.sum (sealB x) * 4294967296+x
theorem sealB_lt (x:Nat):∀ b∈sealB x,b < 256:=by
 intro b hb;simp only [sealB,List.mem_cons,List.not_mem_nil,or_false] at hb;omega
theorem sealW_lt (x:Nat) (hx:x < 4294967296):sealW x < 18446744073709551616:=by
 have:=Crc.sum_lt (sealB_lt x);unfold sealW;omega
theorem seal_or (s x:Nat) (hs:s < 4294967296) (hx:x < 4294967296):bits .or .u64 ((s:Int) * 4294967296) (x:Int)=((s * 4294967296+x:Nat):Int):=by
 rw [show (s:Int) * 4294967296=((s * 4294967296:Nat):Int) by omega];rw [u64_or_nat _ _ oM oM];congr 1
 have:=Nat.two_pow_add_eq_or_of_lt (i:=32) (b:=x) hx s;rw [Nat.mul_comm s,show (4294967296:Nat)=2 ^ 32 from rfl,← this]
theorem seal_any (x:Nat) (hx:x < 4294967296) (w:World) (ht:Tab w) :
  Calls Tryz.prog 374 #[.int .u32 (x:Int)] w fun e w'=>e = .returned (.int .u64 (sealW x:Int))∧Below w.heap.size w w':=by
 have HS:=hid (fun (W:World) (hW:Below w.heap.size w W) (B:Nat) h=>sum_any (some ⟨w.heap.size,0,none⟩) 4 4 B (sealB x) W (sealB_lt x) h oM (ht.below hW));have hsl:=Crc.sum_lt (sealB_lt x);have HB:Hid (sealB x=[x % 256,x / 256 % 256,x / 65536 % 256,x / 16777216 % 256]):=rfl;have e0:IntKind.u8.wrap (x:Int)=((x % 256:Nat):Int):=by rw [IntKind.wrap_u8];omega
 have e1:IntKind.u8.wrap ((x:Int) / 256)=((x / 256 % 256:Nat):Int):=by rw [IntKind.wrap_u8];omega
 have e2:IntKind.u8.wrap ((x:Int) / 65536)=((x / 65536 % 256:Nat):Int):=by rw [IntKind.wrap_u8];omega
 have e3:IntKind.u8.wrap ((x:Int) / 16777216)=((x / 16777216 % 256:Nat):Int):=by rw [IntKind.wrap_u8];omega
 have e4:bits .or .u64 ((Crc.sum (sealB x):Int) * 4294967296) (x:Int)=(sealW x:Int):=seal_or _ x hsl hx;generalize sealW x=z at *;generalize Crc.sum (sealB x)=s at *;generalize sealB x=l at *;generalize x % 256=b0 at *;generalize x / 256 % 256=b1 at *;generalize x / 65536 % 256=b2 at *;generalize x / 16777216 % 256=b3 at *;have u1:IntKind.u64.wrap (s:Int)=(s:Int):=by rw [IntKind.wrap_u64];omega
 have u2:IntKind.u64.wrap (x:Int)=(x:Int):=by rw [IntKind.wrap_u64];omega
 have u3:IntKind.u64.wrap ((s:Int) * 4294967296)=(s:Int) * 4294967296:=by rw [IntKind.wrap_u64];omega
 clear ht;go_enter Tryz.func374,Tryz.ntmps374
 go_wp2_with (go_at_call 395;refine (HS.out _ ((Below.refl _ _).alloc (nL _) _) (w.heap.size+1) (by rw [HB.out];exact row_reads_at w _ rfl _ 4 1 5 _ rfl rfl)).mono ?_;rintro e w1 ⟨rfl,rfl⟩)
 go_ret;exact ⟨rfl,(Below.refl _ _).alloc (nL _) _⟩
end
section
open Go.RowKit
def ulogCells (a:DA) (s n:Nat):Array Value:=#[memV a, .int .u64 ((64 * s:Nat):Int), .int .i64 (n:Int)]
theorem undoOpen_any {a:DA} {L T:Nat} {w:World} {S:Fp} {cur:Nat→Nat} {F:Nat} (h:Dev a L T w S cur F) (s n:Nat) (hn:2≤n) (hs:s+n≤L) :
  Calls Tryz.prog 178 #[memV a, .int .i64 (s:Int), .int .i64 (n:Int)] w fun e w'=>e = .returned (.tuple #[.pointer (some ⟨w.heap.size,0,none⟩), .int .i64 0])∧w'=w.alloc (.cells (ulogCells a s n) 330):=by
 obtain ⟨ls,exe,per,cs,lsC,hdc,hnt⟩:=h;have hL:=hdc.hL;obtain ⟨f0,f2,_,_,_⟩:=hdc.facts (j:=0) oM;clear hdc hnt;have hq:=eqMem (some ⟨a.th 0,0,none⟩);have hmS:=methSize (some ⟨a.th 0,0,none⟩);unfold memV ulogCells memV;have e1:decide ((s:Int) < 0)=false:=dF;have e2:decide ((n:Int) < 2)=false:=dF;have u1:IntKind.u64.wrap ((L:Int) * 64)=(L:Int) * 64:=by rw [IntKind.wrap_u64];omega
 have u2:IntKind.u64.wrap (n:Int)=(n:Int):=by rw [IntKind.wrap_u64];omega
 have u3:IntKind.u64.wrap (s:Int)=(s:Int):=by rw [IntKind.wrap_u64];omega
 have u4:IntKind.u64.wrap ((L:Int) - (n:Int))=(L:Int) - (n:Int):=by rw [IntKind.wrap_u64];omega
 have u5:IntKind.u64.wrap ((s:Int) * 64)=((64 * s:Nat):Int):=by rw [IntKind.wrap_u64];omega
 have d1:((L:Int) * 64).tdiv 64=(L:Int):=by rw [Int.mul_tdiv_cancel _ (by decide)]
 have e3:decide ((L:Int) < (n:Int))=false:=dF;have e4:decide ((L:Int) - (n:Int) < (s:Int))=false:=dF;go_enter Tryz.func178,Tryz.ntmps178
 go_wp2;go_ret2;exact ⟨rfl,rfl⟩
theorem redoOpen_any {a:DA} {L T:Nat} {w:World} {S:Fp} {cur:Nat→Nat} {F:Nat} (h:Dev a L T w S cur F) (s n:Nat) (hn:26≤n) (hs:s+n≤L) :
  Calls Tryz.prog 177 #[memV a, .int .i64 (s:Int), .int .i64 (n:Int)] w fun e w'=>e = .returned (.tuple #[.pointer (some ⟨w.heap.size,0,none⟩), .int .i64 0])∧w'=w.alloc (.cells (logCells a s n) 353):=by
 have HH:=hid (handle_any h s n hn hs);clear h;unfold memV at *;go_enter Tryz.func177,Tryz.ntmps177
 go_wp2_with (go_at_call 169;refine HH.out.mono ?_;rintro e w1 ⟨rfl,rfl⟩)
 go_ret2;exact ⟨rfl,rfl⟩
end
section
open Go.RowKit
theorem aheadLoad (p : Addr) (w : World) : (nilAhead 640 58 (.pointer (some p)) "Load").run Tryz.prog w = .ok (some false) w := by kernel_rfl
theorem load_at {a:DA} {L T:Nat} {w:World} {S:Fp} {cur:Nat→Nat} {F:Nat} (h:Dev a L T w S cur F) (off v:Nat) (h8:off % 8=0) (hlt:off < 64 * L) (hv:cur (off / 8)=v) (W:World) (hW:Below w.heap.size w W) :
  Calls Tryz.prog 65 #[.pointer (some ⟨a.th 0,0,none⟩), .int .u64 (off:Int)] W fun e w'=>e = .returned (.int .u64 (v:Int))∧W=w':=by
 obtain ⟨s,exe,per,cs,ls,hdc,_⟩:=h.below hW;subst hv;exact load_any hdc oM off h8 hlt
theorem look_idle {a:DA} {L T:Nat} {w:World} {S:Fp} {cur:Nat→Nat} {F:Nat} (h:Dev a L T w S cur F) (g s n:Nat) (hB:Blk w g 353 (logCells a s n)) (hs:s < L) (h0:cur (8 * s)=0) :
  Calls Tryz.prog 285 #[.pointer (some ⟨g,0,none⟩)] w fun e w'=>e = .returned (.tuple #[.int .u8 1, .slice none 0 0])∧Below w.heap.size w w':=by
 have HLd:=hid (load_at h (64 * s) 0 oM oM (by rw [show 64 * s / 8=8 * s by omega];exact h0));have hna:=aheadLoad ⟨a.th 0,0,none⟩;have hm:=methLoad (some ⟨a.th 0,0,none⟩);have HBB:=hid hB;have f0:w.cell? ⟨g,0,none⟩=some (memV a):=hB.cell 0;have f1:w.cell? ⟨g,1,none⟩=some (.int .u64 ((64 * s:Nat):Int)):=hB.cell 1;have HB0:Hid (Below w.heap.size w w.drew):=(Below.refl _ _).drew;unfold memV at *;generalize 64 * s=z at *;clear hB h;go_enter Tryz.func285,Tryz.ntmps285
 go_wp2_with fail
 go_cut [5] from 16 to 24 (fun v wx=>v = .int .u64 0∧Hid (Below w.heap.size w wx))
 case first =>
  go_region_with (go_at_call 65;refine (HLd.out _ HB0.out).mono ?_;rintro e w1 ⟨rfl,rfl⟩)
  all_goals (go_wp2_with fail;go_meet;exact ⟨rfl,HB0⟩)
 case rest =>
  obtain ⟨rfl,HW⟩:=hcut;go_wp2;go_ret2;exact ⟨rfl,HW.out⟩
end
section
open Go.RowKit
def payW:Nat→Nat
 | 0=>3
 | 1=>7
 | 2=>15
 | 3=>31
 | _=>60
def perC (c:Nat):Nat:=248 / (payW c+1)
def offB (c i:Nat):Nat:=8+i * (payW c+1)
def findC (c x:Nat):Option Nat:=if x≤8∨256≤x then none else if (x - 9) % (payW c+1)≠0∨perC c≤(x - 9) / (payW c+1) then none else some ((x - 9) / (payW c+1))
theorem pay_le (c:Nat):3≤payW c∧payW c≤60:=by
 unfold payW;split <;> omega
theorem per_le (c:Nat):4≤perC c∧perC c≤62:=by
 unfold perC payW;split <;> omega
theorem off_lt {c i:Nat} (h:i < perC c):offB c i+payW c+1≤256:=by
 unfold perC payW at h;unfold offB payW;split at h <;> omega
theorem off_inj {c i j:Nat} (hij:i < j):offB c i+payW c+1≤offB c j:=by
 unfold offB;have h:(i+1) * (payW c+1)≤j * (payW c+1):=Nat.mul_le_mul_right _ hij;rw [Nat.succ_mul] at h;omega
theorem findC_off {c i:Nat} (h:i < perC c):findC c (offB c i+1)=some i:=by
 have h1:=off_lt h;have h2:=pay_le c;unfold findC;rw [if_neg (by unfold offB at *;omega)];have e:offB c i+1 - 9=i * (payW c+1):=by unfold offB;omega
 rw [e,Nat.mul_mod_left,Nat.mul_div_cancel _ oM,if_neg oM]
theorem findC_some {c x i:Nat} (h:findC c x=some i):i < perC c∧x=offB c i+1:=by
 unfold findC at h;split at h
 ·cases h
 ·split at h
  ·cases h
  ·rename_i h1 h2
   injection h with h
   have h3:=Nat.div_add_mod (x - 9) (payW c+1);rw [h] at h3 h2;refine ⟨oM,?_⟩;unfold offB;rw [Nat.mul_comm] at h3;omega
def Pay (w:World):Prop:=∀ i,i < 5→w.cell? ⟨0,i,none⟩=some (.int .i64 (payW i:Int))
theorem Pay.size {w:World} (h:Pay w):0 < w.heap.size:=World.block_lt_of_cell? _ _ (h 0 oM)
theorem Pay.below {w w':World} (h:Pay w) (hb:Below w.heap.size w w'):Pay w':=fun i hi=>by
 rw [hb.cell (p:=⟨0,i,none⟩) h.size];exact h i hi
section
theorem szWords_any (c:Nat) (hc:c < 5) (w:World) (hp:Pay w):Calls Tryz.prog 202 #[.int .i64 (c:Int)] w fun e w'=>e = .returned (.int .i64 (payW c:Int))∧w=w':=by
 have f:=hp c hc;have h1:(0:Int)≤(c:Int):=oM;have h2:(c:Int) < 5:=oM;clear hp;generalize payW c=q at *;go_enter Tryz.func202,Tryz.ntmps202
 go_wp2;go_ret;exact ⟨rfl,rfl⟩
theorem perChunk_any (c:Nat) (hc:c < 5) (w:World) (hp:Pay w):Calls Tryz.prog 207 #[.int .i64 (c:Int)] w fun e w'=>e = .returned (.int .i64 (perC c:Int))∧w=w':=by
 have HW:=hid (szWords_any c hc w hp);obtain ⟨g3,g4⟩:=pay_le c;have e1:((payW c:Int) == 0)=false:=by rw [beq_eq_false_iff_ne];omega
 have e2:(248:Int) / ((payW c:Int)+1)=(perC c:Int):=by
  rw [show ((payW c:Int)+1)=((payW c+1:Nat):Int) by omega];exact (Int.natCast_ediv 248 (payW c+1)).symm
 have e3:(248:Int).tdiv ((payW c:Int)+1)=(perC c:Int):=by rw [Int.tdiv_eq_ediv_of_nonneg oM];exact e2
 have e4:¬ ((payW c:Int)+1=0):=oM;obtain ⟨g1,g2⟩:=per_le c;clear hp;generalize payW c=q at *;generalize perC c=r at *;go_enter Tryz.func207,Tryz.ntmps207
 go_wp2_with (go_at_call 202;refine HW.out.mono ?_;rintro e w1 ⟨rfl,rfl⟩)
 go_ret;exact ⟨rfl,rfl⟩
theorem offset_any (c i:Nat) (hc:c < 5) (hi:i < perC c) (w:World) (hp:Pay w):Calls Tryz.prog 354 #[.int .i64 (c:Int), .int .i64 (i:Int)] w fun e w'=>e = .returned (.tuple #[.int .i64 (offB c i:Int), .int .i64 0])∧w=w':=by
 have HW:=hid (perChunk_any c hc w hp);have f:=hp c hc;obtain ⟨g3,g4⟩:=pay_le c;obtain ⟨g1,g2⟩:=per_le c;have h3:=off_lt hi;have e1:((perC c:Int) == 0)=false:=by rw [beq_eq_false_iff_ne];omega
 have e2:(i:Int) < (perC c:Int):=oM;have e2b:(0:Int)≤(i:Int):=oM;have e2c:decide ((perC c:Int)≤(i:Int))=false:=dF;have e5:(0:Int)≤(c:Int):=oM;have e6:(c:Int) < 5:=oM;have e7:IntKind.i64.wrap ((i:Int) * ((payW c:Int)+1))=((i * (payW c+1):Nat):Int):=by
  rw [show (i:Int) * ((payW c:Int)+1)=((i * (payW c+1):Nat):Int) by push_cast;rfl];exact IntWalk.i64_in _ (by unfold offB at h3;omega)
 have e7b:wrap64 ((i:Int) * ((payW c:Int)+1))=((i * (payW c+1):Nat):Int):=by
  rw [show (i:Int) * ((payW c:Int)+1)=((i * (payW c+1):Nat):Int) by push_cast;rfl];unfold wrap64;unfold offB at h3;omega
 have HOf:Hid ((offB c i:Int)=8+((i * (payW c+1):Nat):Int)):=hid (by unfold offB;omega);have h4:i * (payW c+1)≤256:=by unfold offB at h3;omega
 clear hp h3;generalize i * (payW c+1)=z at *;generalize offB c i=ob at *;generalize payW c=q at *;generalize perC c=r at *;go_enter Tryz.func354,Tryz.ntmps354
 go_wp2_with (go_at_call 207;refine HW.out.mono ?_;rintro e w1 ⟨rfl,rfl⟩)
 go_ret2;exact ⟨by rw [HOf.out];rfl,rfl⟩
def findR (c x:Nat):Value:=match findC c x with
 | some i => .tuple #[.int .i64 (i:Int), .bool true]
 | none => .tuple #[.int .i64 0, .bool false]
theorem szFind_any (c x:Nat) (hc:c < 5) (hx:x≤1000000000) (w:World) (hp:Pay w):Calls Tryz.prog 314 #[.int .i64 (c:Int), .int .i64 (x:Int)] w fun e w'=>e = .returned (findR c x)∧w=w':=by
 have HW:=hid (perChunk_any c hc w hp);have f:=hp c hc;obtain ⟨g3,g4⟩:=pay_le c;obtain ⟨g1,g2⟩:=per_le c;have e1:((perC c:Int) == 0)=false:=by rw [beq_eq_false_iff_ne];omega
 have e5:(0:Int)≤(c:Int):=oM;have e6:(c:Int) < 5:=oM;by_cases h1:x≤8∨256≤x
 ·have hr:findR c x = .tuple #[.int .i64 0, .bool false]:=by unfold findR findC;rw [if_pos h1]
  rw [hr];clear hr hp;generalize payW c=q at *;generalize perC c=r at *;rcases h1 with h1 | h1
  ·have d1:decide ((x:Int)≤8)=true:=dT
   go_enter Tryz.func314,Tryz.ntmps314
   go_wp2_with (go_at_call 207;refine HW.out.mono ?_;rintro e w1 ⟨rfl,rfl⟩)
   go_ret2;exact ⟨rfl,rfl⟩
  ·have d1:decide ((x:Int)≤8)=false:=dF
   have d2:decide (256≤(x:Int))=true:=dT;go_enter Tryz.func314,Tryz.ntmps314
   go_wp2_with (go_at_call 207;refine HW.out.mono ?_;rintro e w1 ⟨rfl,rfl⟩)
   go_ret2;exact ⟨rfl,rfl⟩
 ·have d1:decide ((x:Int)≤8)=false:=dF
  have d2:decide (256≤(x:Int))=false:=dF;have k1:(8:Int) < (x:Int):=oM;have k2:(x:Int) < 256:=oM;obtain ⟨y,hy⟩:∃ y,x - 9=y:=⟨_,rfl⟩
  have hxy:(x:Int) - 8 - 1=(y:Int):=oM;have m1:((y:Int) % ((payW c:Int)+1))=((y % (payW c+1):Nat):Int):=by
   rw [show ((payW c:Int)+1)=((payW c+1:Nat):Int) by omega];exact (Int.natCast_emod y (payW c+1)).symm
  have m2:((y:Int) / ((payW c:Int)+1))=((y / (payW c+1):Nat):Int):=by
   rw [show ((payW c:Int)+1)=((payW c+1:Nat):Int) by omega];exact (Int.natCast_ediv y (payW c+1)).symm
  have m3:((y:Int).tmod ((payW c:Int)+1))=((y % (payW c+1):Nat):Int):=by rw [Int.tmod_eq_emod_of_nonneg oM];exact m1
  have m4:((y:Int).tdiv ((payW c:Int)+1))=((y / (payW c+1):Nat):Int):=by rw [Int.tdiv_eq_ediv_of_nonneg oM];exact m2
  have n1:y % (payW c+1)≤256:=by have:=Nat.mod_le y (payW c+1);omega
  have n2:y / (payW c+1)≤256:=by have:=Nat.div_le_self y (payW c+1);omega
  have HR:Hid (findR c x=if y % (payW c+1)≠0∨perC c≤y / (payW c+1) then .tuple #[.int .i64 0, .bool false] else .tuple #[.int .i64 ((y / (payW c+1):Nat):Int), .bool true]):=hid (by
   unfold findR findC;rw [if_neg h1,hy];by_cases hz:y % (payW c+1)≠0∨perC c≤y / (payW c+1)
   ·rw [if_pos hz,if_pos hz]
   ·rw [if_neg hz,if_neg hz])
  clear hp h1 hy;generalize findR c x=rr at *;generalize y % (payW c+1)=ym at *;generalize y / (payW c+1)=yd at *;generalize payW c=q at *;generalize perC c=r at *;have yp:(0:Int)≤(y:Int):=oM;have q1:¬ ((q:Int)+1=0):=oM;by_cases h2:ym=0
  ·by_cases h3:yd < r
   ·have r1:((ym:Int) == 0)=true:=by rw [beq_iff_eq];omega
    have r2:decide ((r:Int)≤(yd:Int))=false:=dF;have r3:decide (r≤yd)=false:=dF;subst h2;rw [HR.out,if_neg oM];clear HR;go_enter Tryz.func314,Tryz.ntmps314
    go_wp2_with (go_at_call 207;refine HW.out.mono ?_;rintro e w1 ⟨rfl,rfl⟩)
    go_ret2;exact ⟨rfl,rfl⟩
   ·have r2:decide ((r:Int)≤(yd:Int))=true:=dT
    have r3:decide (r≤yd)=true:=dT;subst h2;rw [HR.out,if_pos oM];clear HR;go_enter Tryz.func314,Tryz.ntmps314
    go_wp2_with (go_at_call 207;refine HW.out.mono ?_;rintro e w1 ⟨rfl,rfl⟩)
    go_ret2;exact ⟨rfl,rfl⟩
  ·have r1:((ym:Int) == 0)=false:=by rw [beq_eq_false_iff_ne];omega
   rw [HR.out,if_pos oM];clear HR;go_enter Tryz.func314,Tryz.ntmps314
   go_wp2_with (go_at_call 207;refine HW.out.mono ?_;rintro e w1 ⟨rfl,rfl⟩)
   go_ret2;exact ⟨rfl,rfl⟩
def clsOf (n:Nat):Nat:=if n≤3 then 0 else if n≤7 then 1 else if n≤15 then 2 else if n≤31 then 3 else 4
theorem class_any (n:Nat) (h0:0 < n) (h60:n≤60) (w:World) (hp:Pay w):Calls Tryz.prog 201 #[.int .i64 (n:Int)] w fun e w'=>e = .returned (.tuple #[.int .i64 (clsOf n:Int), .int .i64 0])∧w=w':=by
 have HP:=hid hp;have h1:(1:Int)≤(n:Int):=oM;have HC:Hid (clsOf n < 5∧∀ i,i < 5→(n≤payW i↔clsOf n≤i)):=hid (by
  have hcl:(n≤3∧clsOf n=0)∨(3 < n∧n≤7∧clsOf n=1)∨(7 < n∧n≤15∧clsOf n=2)∨(15 < n∧n≤31∧clsOf n=3)∨(31 < n∧clsOf n=4):=by
   unfold clsOf;by_cases a1:n≤3
   ·rw [if_pos a1];omega
   ·rw [if_neg a1]
    by_cases a2:n≤7
    ·rw [if_pos a2];omega
    ·rw [if_neg a2]
     by_cases a3:n≤15
     ·rw [if_pos a3];omega
     ·rw [if_neg a3]
      by_cases a4:n≤31
      ·rw [if_pos a4];omega
      ·rw [if_neg a4];omega
  refine ⟨oM,fun i hi=>?_⟩;have hi5:i=0∨i=1∨i=2∨i=3∨i=4:=oM;rcases hi5 with rfl | rfl | rfl | rfl | rfl <;> simp only [payW] <;> omega)
 clear hp;generalize clsOf n=cn at *;go_enter Tryz.func201,Tryz.ntmps201
 go_wp2;go_loopw [7] (fun i wr=>∃ k:Nat,k≤5∧k≤cn∧i = .int .i64 (k:Int)∧Hid (w=wr)) (fun i _=>5 - (Go.RowKit.intOf i).toNat)
 case atStart=>exact ⟨0,oM,Nat.zero_le _,rfl,hid rfl⟩
 case round =>
  obtain ⟨k,hk,hkc,rfl,hw⟩:=hrel;have hw:=hw.out;subst hw;have hk5:k < 5:=by have:=HC.out.1;omega
  have f:=HP.out k hk5;have hz5:(0:Int)≤(k:Int):=oM;have hz6:(k:Int) < 5:=oM;have hiff:=HC.out.2 k hk5;generalize payW k=q at *;by_cases hle:n≤q
  ·have d:decide ((n:Int)≤(q:Int))=true:=dT
   have hkk:k=cn:=by have:=hiff.1 hle;omega
   subst hkk;clear hiff;go_wp2;go_ret2;exact ⟨rfl,rfl⟩
  ·have d:decide ((n:Int)≤(q:Int))=false:=dF
   have hlt:k < cn:=by
    have:¬ cn≤k:=fun h=>hle (hiff.2 h)
    omega
   clear hiff;go_wp2;go_roundw
   case rel =>
    first
     | exact ⟨k+1,oM,oM,by go_num,hid trivial⟩
     | exact ⟨k+1,oM,oM,by go_num,hid rfl⟩
   case measure=>simp [Go.RowKit.intOf];omega
end
end
section
open Go.RowKit
theorem thread_any {a:DA} {L T:Nat} {w:World} {S:Fp} {cur:Nat→Nat} {F:Nat} (h:Dev a L T w S cur F) :
  Calls Tryz.prog 71 #[.pointer (some ⟨a.d,0,none⟩), .int .i64 0] w fun e w'=>e = .returned (.pointer (some ⟨a.th 0,0,none⟩))∧w=w':=by
 obtain ⟨ls,exe,per,cs,lsC,hdc,hnt⟩:=h;have f3:w.cell? ⟨a.d,3,none⟩=some (.pointer (some ⟨a.th 0,0,none⟩)):=hdc.dev.cell 3;clear hdc hnt;go_enter Tryz.func71,Tryz.ntmps71
 go_wp2;go_ret;exact ⟨rfl,rfl⟩
def mgrCells (th r u h:Option Addr) (last:Option Addr):Array Value:=#[.pointer th, .pointer r, .pointer u, .pointer h, .pointer last]
theorem txNew_any (th r u h:Option Addr) (w:World) :
  Calls Tryz.prog 182 #[.pointer th, .pointer r, .pointer u, .pointer h] w fun e w'=>e = .returned (.pointer (some ⟨w.heap.size,0,none⟩))∧w'=w.alloc (.cells (mgrCells th r u h none) 200):=by
 go_enter Tryz.func182,Tryz.ntmps182
 go_wp2;go_ret;exact ⟨rfl,rfl⟩
structure SA where
 r:Nat
 u:Nat
 h:Nat
 gs:Nat
 mr:Nat
 mh:Nat
 m:Nat
end
section
open Go.RowKit
def Stop (p:Prop):Prop:=p
theorem stop {p:Prop} (h:Stop p):p:=h
def RetWr (w:World) (ws:List (Nat × Nat)) (e:Ending) (w':World):Prop:=∃ A m c,e = .returned (.slice A m c)∧m=ws.length∧w'.ownsRow w.heap.size 114 2 (.slice A m c) m (wrCells ws)∧Below w.heap.size w w'
theorem wrCells_snoc (ws:List (Nat × Nat)) (e:Nat × Nat):wrCells (ws++[e])=wrCells ws++[.int .u64 (e.1:Int), .int .u64 (e.2:Int)]:=by simp [wrCells]
theorem takeS {α:Type} (l:List α) (k:Nat) (h:k < l.length):l.take (k+1)=l.take k++[l[k]]:=by simp
end
section
open Go.RowKit Go.Maps
structure PMapD (D:DataW Unit) (f:Nat→Option Nat) (n:Nat):Prop where
 at_:∀ x,D.atKey (kU x) (.lit (.int .u64 0)) = .lit (.int .u64 (((f x).getD 0:Nat):Int))
 has:∀ x,Maps.has D (kU x)=(f x).isSome
 size:Maps.size D=n
def PMap (w:World) (b N:Nat) (f:Nat→Option Nat) (n:Nat):Prop:=∃ D:DataW Unit,w.ownsMap Tryz.prog 32 (plainElem Tryz.prog 54) b N D∧PMapD D f n
def updF (f:Nat→Option Nat) (x:Nat) (v:Option Nat):Nat→Option Nat:=fun y=>if y=x then v else f y
section
variable {w w':World} {b N n:Nat} {f:Nat→Option Nat}
theorem PMap.look (h:PMap w b N f n) {x:Nat} (hx:x < 18446744073709551616):(Instr.lookup 190 (.map (some b)) (.int .u64 (x:Int)) true).run Tryz.prog w = .ok (.tuple #[.int .u64 (((f x).getD 0:Nat):Int), .bool (f x).isSome]) w:=by
 obtain ⟨D,ho,hd⟩:=h;obtain ⟨v,ps,hrun,hv⟩:=ho.look_ok keyedU Tryz.underlying190 (z := .int .u64 0) (by kernel_rfl) (plainElem_int Tryz.underlying54 (by decide)) (keyU hx);obtain ⟨c,rfl,hc,hwc⟩:=plainElem_int_inv Tryz.underlying54 hv;rw [hd.at_ x] at hc;simp at hc;rw [hrun,hd.has x,← hc.1]
theorem PMap.put (h:PMap w b N f n) (hN:N < maxLen) {x p:Nat} (hx:x < 18446744073709551616) (hp:p < 18446744073709551616) (hf:f x=none) :
  ∃ w',(Instr.mapUpdate 190 (.map (some b)) (.int .u64 (x:Int)) (.int .u64 (p:Int))).run Tryz.prog w = .ok () w'∧PMap w' b (N+1) (updF f x (some p)) (n+1)∧w.grownBy w' (some b):=by
 obtain ⟨D,ho,hd⟩:=h;obtain ⟨w',hrun,ho',hg⟩:=ho.update keyedU Tryz.underlying190 hN (keyU hx) (plainElem_int Tryz.underlying54 (wf_u64_nat hp));refine ⟨w',hrun,⟨_,ho',⟨fun y=>?_,fun y=>?_,?_⟩⟩,hg⟩
 ·unfold updF
  by_cases hy:y=x
  ·subst hy;rw [atKey_put_same ho.isMap (kU_key y)];simp
  ·rw [atKey_put_other (kU_ne hy),hd.at_ y,if_neg hy]
 ·unfold updF
  by_cases hy:y=x
  ·subst hy;rw [has_put_same ho.isMap (kU_key y)];simp
  ·rw [has_put_other (kU_ne hy),hd.has y,if_neg hy]
 ·rw [size_put (ho.tidy keyedU),hd.has x,hf,hd.size];rfl
theorem PMap.del (h:PMap w b N f n) {x:Nat} (hx:x < 18446744073709551616) {p:Nat} (hf:f x=some p) :
  ∃ w',(Builtin.delete_ #[190,32] 0 #[.map (some b), .int .u64 (x:Int)]).run Tryz.prog w = .ok (.tuple #[]) w'∧PMap w' b N (updF f x none) (n - 1)∧w.grownBy w' (some b):=by
 obtain ⟨D,ho,hd⟩:=h;obtain ⟨w',hrun,ho',hg⟩:=ho.drop keyedU Tryz.underlying190 (keyU hx) 0;refine ⟨w',hrun,⟨_,ho',⟨fun y=>?_,fun y=>?_,?_⟩⟩,hg.grown⟩
 ·unfold updF
  by_cases hy:y=x
  ·subst hy;rw [atKey_del_same];simp
  ·rw [atKey_del_other (kU_ne hy),hd.at_ y,if_neg hy]
 ·unfold updF
  by_cases hy:y=x
  ·subst hy;rw [has_del_same];simp
  ·rw [has_del_other (kU_ne hy),hd.has y,if_neg hy]
 ·have h1:=size_del (k:=kU x) (ho.tidy keyedU)
  rw [hd.has x,hf,hd.size] at h1;simp at h1;omega
theorem PMap.new (w:World):PMap (w.alloc (.map #[] 0)) w.heap.size 0 (fun _=>none) 0:=⟨_,World.ownsMap_made w _ _ _,⟨fun x=>by simp [DataW.atKey],fun x=>by simp [Maps.has],rfl⟩⟩
theorem PMap.chg {Z:Fp} (h:PMap w b N f n) (hc:Chg Z w w') (hb:¬ Z b):PMap w' b N f n:=by
 obtain ⟨D,ho,hd⟩:=h;exact ⟨D,hc.map ho hb,hd⟩
theorem PMap.mono {N':Nat} (h:PMap w b N f n) (hN:N≤N'):PMap w b N' f n:=by
 obtain ⟨D,ho,hd⟩:=h;exact ⟨D,ho.mono hN,hd⟩
theorem PMap.lt (h:PMap w b N f n):b < w.heap.size:=by
 obtain ⟨D,ho,hd⟩:=h;exact ho.lt
def HMap (w:World) (b N:Nat):Prop:=∃ D:DataW Unit,w.ownsMap Tryz.prog 3 (plainElem Tryz.prog 3) b N D
theorem keyI {x:Nat} (h:x < 9000000000):keyOf Tryz.prog 3 (.int .i64 (x:Int))=some (.int .i64 (x:Int)):=keyOf_int_mk Tryz.underlying3 (WalkArith.wf_i64 ⟨oM,oM⟩)
theorem keyedN:Keyed Tryz.prog 3:=int_keyed Tryz.underlying3
theorem HMap.look (h:HMap w b N) {x:Nat} (hx:x < 9000000000):∃ c:Int,(Instr.lookup 191 (.map (some b)) (.int .i64 (x:Int)) false).run Tryz.prog w = .ok (.int .i64 c) w∧(Lit.int .i64 c).wf=true:=by
 obtain ⟨D,ho⟩:=h;obtain ⟨c,hrun,_,hwc⟩:=ho.lookup_int keyedN Tryz.underlying191 Tryz.underlying3 (by kernel_rfl) (keyI hx);exact ⟨c,hrun,hwc⟩
theorem HMap.put (h:HMap w b N) (hN:N < maxLen) {x:Nat} (hx:x < 9000000000) {c:Int} (hc:(Lit.int .i64 c).wf=true) :
  ∃ w',(Instr.mapUpdate 191 (.map (some b)) (.int .i64 (x:Int)) (.int .i64 c)).run Tryz.prog w = .ok () w'∧HMap w' b (N+1)∧w.grownBy w' (some b):=by
 obtain ⟨D,ho⟩:=h;obtain ⟨w',hrun,ho',hg⟩:=ho.update keyedN Tryz.underlying191 hN (keyI hx) (plainElem_int Tryz.underlying3 hc);exact ⟨w',hrun,⟨_,ho'⟩,hg⟩
theorem HMap.del (h:HMap w b N) {x:Nat} (hx:x < 9000000000) :
  ∃ w',(Builtin.delete_ #[191,3] 0 #[.map (some b), .int .i64 (x:Int)]).run Tryz.prog w = .ok (.tuple #[]) w'∧HMap w' b N∧w.grownBy w' (some b):=by
 obtain ⟨D,ho⟩:=h;obtain ⟨w',hrun,ho',hg⟩:=ho.drop keyedN Tryz.underlying191 (keyI hx) 0;exact ⟨w',hrun,⟨_,ho'⟩,hg.grown⟩
theorem HMap.new (w:World):HMap (w.alloc (.map #[] 0)) w.heap.size 0:=⟨_,World.ownsMap_made w _ _ _⟩
theorem HMap.chg {Z:Fp} (h:HMap w b N) (hc:Chg Z w w') (hb:¬ Z b):HMap w' b N:=by
 obtain ⟨D,ho⟩:=h;exact ⟨D,hc.map ho hb⟩
theorem HMap.lt (h:HMap w b N):b < w.heap.size:=by
 obtain ⟨D,ho⟩:=h;exact ho.lt
end
end
section
open Go.RowKit
theorem size_dev {a:DA} {L T:Nat} {w:World} {S:Fp} {cur:Nat→Nat} {F:Nat} (h:Dev a L T w S cur F) :
  Calls Tryz.prog 335 #[.pointer (some ⟨a.th 0,0,none⟩)] w fun e w'=>e = .returned (.int .u64 ((L:Int) * 64))∧w'=w:=by
 obtain ⟨ls,exe,per,cs,lsC,hdc,hnt⟩:=h;have hL:=hdc.hL;obtain ⟨f0,f2,_,_,f4⟩:=hdc.facts (j:=0) oM;have u1:IntKind.u64.wrap ((L:Int) * 64)=(L:Int) * 64:=by rw [IntKind.wrap_u64];omega
 clear hdc hnt;go_enter Tryz.func335,Tryz.ntmps335
 go_wp2_with go_in
 go_ret;exact ⟨rfl,rfl⟩
theorem allowedR_any {a:DA} {L T:Nat} {w:World} {S:Fp} {cur:Nat→Nat} {F:Nat} (h:Dev a L T w S cur F) (g s n:Nat) (hB:Blk w g 353 (logCells a s n)) (hs:s+n≤L) (o:Nat) (ho:OffOk L s n o) :
  Calls Tryz.prog 247 #[.pointer (some ⟨g,0,none⟩), .int .u64 (o:Int)] w fun e w'=>e = .returned (.bool true)∧Below w.heap.size w w':=by
 have c0:w.cell? ⟨g,0,none⟩=some (memV a):=hB.cell 0;have c1:w.cell? ⟨g,1,none⟩=some (.int .u64 ((64 * s:Nat):Int)):=hB.cell 1;have c2:w.cell? ⟨g,2,none⟩=some (.int .u64 ((64 * n:Nat):Int)):=hB.cell 2;have hmS:=methSize (some ⟨a.th 0,0,none⟩);have HSz:Hid (∀ n,Calls Tryz.prog 335 #[.pointer (some ⟨a.th 0,0,none⟩)] (w.drewN n) fun e w'=>e = .returned (.int .u64 ((L:Int) * 64))∧w'=w.drewN n):=hid (fun n=>size_dev (h.below (below_drewN (Below.refl _ w) n)));have hL:L≤4096:=by obtain ⟨ls,exe,per,cs,lsC,hdc,hnt⟩:=h;exact hdc.hL
 obtain ⟨o1,o2,o3⟩:=ho;have HB0:Hid (∀ n,Below w.heap.size w (w.drewN n)):=hid (fun n=>below_drewN (Below.refl _ w) n);have e1:((o:Int) % 8 == 0)=true:=by rw [beq_iff_eq];omega
 have e1':(o:Int) % 8=0:=oM;have u1:IntKind.u64.wrap ((L:Int) * 64)=(L:Int) * 64:=by rw [IntKind.wrap_u64];omega
 have e2:decide ((o:Int) < (L:Int) * 64)=true:=dT;clear h hB;unfold memV at *;by_cases hlt:o < 64 * s
 ·have e3:decide ((o:Int) < ((64 * s:Nat):Int))=true:=dT
  have e3':decide (o < 64 * s)=true:=decide_eq_true hlt;generalize 64 * s=z at *;generalize 64 * n=y at *;go_enter Tryz.func247,Tryz.ntmps247
  go_wp2;go_quiet ((go_at_call 335;exact Calls.quiet_of_same (HSz.out _)))
  go_wp2;go_ret;exact ⟨rfl,HB0.out _⟩
 ·have e3:decide ((o:Int) < ((64 * s:Nat):Int))=false:=dF
  have e3':decide (o < 64 * s)=false:=decide_eq_false hlt;have u4:IntKind.u64.wrap ((o:Int) - ((64 * s:Nat):Int))=(o:Int) - ((64 * s:Nat):Int):=by rw [IntKind.wrap_u64];omega
  have e4:decide (((64 * n:Nat):Int)≤(o:Int) - ((64 * s:Nat):Int))=true:=dT;generalize 64 * s=z at *;generalize 64 * n=y at *;go_enter Tryz.func247,Tryz.ntmps247
  go_wp2;go_quiet ((go_at_call 335;exact Calls.quiet_of_same (HSz.out _)))
  go_wp2;go_ret;exact ⟨rfl,HB0.out _⟩
end
section
open Go.ChangeShapes Go.WideShapes Go.ChangeAt Go.RowKit
theorem reads_elems {α:Type} (cells:α→List Value) (size:Nat) (hs:0 < size) (hlen:∀ x,(cells x).length=size) (w:World) (a:Addr) (ok:α→Prop) :
  ∀ n,(∀ i,i < n→∃ x,ok x∧∀ j,j < size→w.cell? (a.add (i * size+j))=(cells x)[j]?) →
   ∃ l:List α,l.length=n∧(∀ x∈l,ok x)∧(l.flatMap cells).length=n * size∧∀ j u,(l.flatMap cells)[j]?=some u→w.cell? (a.add j)=some u
 | 0,_=>⟨[],rfl,(fun _ h=>by cases h),by simp,(fun j u h=>by simp at h)⟩
 | n+1,h=>by
  obtain ⟨l,h1,h2,h3,h4⟩:=reads_elems cells size hs hlen w a ok n (fun i hi=>h i oM);obtain ⟨x,hx,hc⟩:=h n oM;refine ⟨l++[x],by simp [h1],fun y hy=>?_,?_,fun j u hu=>?_⟩
  ·rcases List.mem_append.1 hy with hy | hy
   ·exact h2 y hy
   ·rw [List.mem_singleton] at hy;subst hy;exact hx
  ·simp only [List.flatMap_append,List.length_append,h3,List.flatMap_cons,List.flatMap_nil,List.append_nil,hlen]
   rw [Nat.succ_mul]
  ·simp only [List.flatMap_append,List.flatMap_cons,List.flatMap_nil,List.append_nil] at hu
   rcases Nat.lt_or_ge j (n * size) with hj | hj
   ·rw [List.getElem?_append_left oM] at hu
    exact h4 j u hu
   ·rw [List.getElem?_append_right oM,h3] at hu
    have hjl:j - n * size < size:=by
     have:=(List.getElem?_eq_some_iff.1 hu).1;rw [hlen] at this;exact this
    have:=hc (j - n * size) hjl;rw [show n * size+(j - n * size)=j by omega] at this;rw [this];exact hu
theorem one_at {cs:List Value} {j:Nat} {v:Value} (h:(cs.drop j).take 1=[v]):cs[j]?=some v:=by
 have h0:((cs.drop j).take 1)[0]?=some v:=by rw [h];rfl
 rw [List.getElem?_take] at h0;simpa [List.getElem?_drop] using h0
theorem wf_u8 {n:Int} (hw:(Lit.int .u8 n).wf=true):∃ k:Nat,n=(k:Int)∧k < 256:=by
 have hb:0≤n∧n < 256:=by
  have hm:IntKind.u8.min=0:=by decide
  have hx:IntKind.u8.max=255:=by decide
  simp only [Lit.wf,hm,hx,Bool.and_eq_true,decide_eq_true_eq] at hw;omega
 exact ⟨n.toNat,by rw [Int.toNat_of_nonneg hb.1],oM⟩
section
variable {H:Type} {enc:TypeId × Value→H} {w:World} {base:Nat} {sp:Nat→Bool} {held:Bool} {fuel:Nat} {x:DataW H × List MemPlace}
theorem cellsU8:Tryz.prog.cellsOf 5=1:=by kernel_rfl
end
section
variable {H:Type} {enc:TypeId × Value→H} {W:World} {b0 base:Nat} {sp:Nat→Bool} {held:Bool} {v:Value} {d:DataW H} {p:List MemPlace} {r:Reach}
end
end
end Go.Proofs.YtfkjjoglnmeciaaGreatDoor
