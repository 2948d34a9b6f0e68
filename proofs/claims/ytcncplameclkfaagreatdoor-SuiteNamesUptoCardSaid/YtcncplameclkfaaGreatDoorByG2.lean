/-
  Several texts in one: each says what it proves.
  Conditions: none. Lemmas only.
-/
import Derived.Test.YtcncplameclkfaaGreatDoorByG1
import Derived.Test.YtcncplameclkfaaGreatDoorSuiG1
import Derived.Test.YtcncplameclkfaaGreatDoorBxG1
set_option linter.all false
section
set_option maxRecDepth 20000
set_option maxHeartbeats 4000000
namespace Go.Proofs.YtcncplameclkfaaGreatDoor
open Go Go.Abs Go.Proofs Go.Box
theorem sjoin_pure(ls:List (List UInt8))(hl:ls.length≤1000)(hf:ls.flatten.length≤10000000):APure Tryz.prog 62 [fZ ls] (eu ls.flatten):=by
 have hfe:=gz ls.flatten
 refine az (c:=⟨Tryz.prog,17,[],[],[]⟩) (rs:=[ResultVar.tmp 2]) Tryz.mixed Tryz.func62 rfl rfl rfl (Nat.le_of_ble_eq_true rfl) (by kernel_rfl) fun H=>?_
 simp(disch:=omega)only[↓kX,kW,aS,simprocAttr]
 refine jn 3 (by simp(disch:=omega)only[↓kX,kW,aS,simprocAttr]) fun k hk0 hk=>?_
 refine br (c:=⟨Tryz.prog,17,[],[],[]⟩) Tryz.mixed (by kernel_rfl) (fun m σ H'=>∃i,i+m=ls.length∧σ 6=fZ ls∧σ 7=.sc (.int .i64 ls.length)∧σ 8=.sc (.int .i64 i)∧∃k o,k≠0∧H k=none∧H'=H.set k o∧cy0 5 1 o (ls.take i).flatten.length∧σ 3=.imm k (bw (ls.take i).flatten) (ls.take i).flatten.length) ls.length ?_ ?_
 ·refine⟨0,by omega,?_⟩
  simp(disch:=omega)only[↓kX,kW,aS,simprocAttr]
  exact⟨k,_,hk0,hk,rfl,.inr ⟨rfl,rfl⟩,rfl⟩
 ·rintro m σ H' ⟨i,hi,h6,h7,h8,k,o,hk0,hk,rfl,ho,h3⟩
  by_cases hlt:i<ls.length
  ·have hb1:decide ((i:Int)<(ls.length:Int))=true:=by simp;omega
   have g1:=getR hlt
   have hz:=flat_take hlt
   have hle:=flat_le (ls:=ls) (i+1)
   have hl2:=gz (ls.take i).flatten
   have hl3:=gz ls[i]
   have w1:IntKind.i64.wrap ((i:Int)+1)=((i+1:Nat):Int):=by rw[iw (by omega)];rfl
   rw[hz,List.length_append]at hle
   generalize hL:(ls.take (i+1)).flatten=L1 at *
   generalize (ls.take i).flatten=L0 at *
   generalize ls[i]=x at *
   simp(disch:=omega)only[↓kX,kW,aS,simprocAttr,h3,h6,h7,h8,hb1,g1,List.length_map,hk0,ho,hl2,hl3,w1]
   intro k' o' hk0' hk' ho'
   exact⟨m-1,by omega,i+1,by omega,rfl,k',o',hk0',am hk',rfl,by rw[hL,hz,List.length_append];exact ho',by rw[hL,hz,me,List.length_append]⟩
  ·have hb1:decide ((i:Int)<(ls.length:Int))=false:=by simp;omega
   obtain rfl:i=ls.length:=by omega
   rw[List.take_length]at h3
   simp(disch:=omega)only[↓kX,kW,aS,simprocAttr,h3,h6,h7,h8,hb1]
   first|exact Sub.set_new hk|exact⟨rfl,Sub.set_new hk⟩|trace_state
def lH(l:List Nat):List AV:=l.map fun x:Nat=>AV.sc (.int .u64 x)
theorem lV(l:List Nat):(lH l).length=l.length:=by simp[lH]
theorem mf{l:List Nat}{i:Nat}(h:i<l.length):(lH l)[i]? = some (.sc (.int .u64 (l.getD i 0:Nat))):=by simp[lH,List.getD,h]
theorem oL{l:List Nat}{i x:Nat}(h:i<l.length):bG (lH l) i [.sc (.int .u64 x)]=lH (l.set i x):=by
 rw[ah,List.set_eq_take_append_cons_drop,if_pos h]
 simp[lH]
theorem kY(l:List Nat):(lH l).map AV.strip0=lH l:=by simp[lH,AV.strip0]
theorem wget(k n i:Nat):(kZ k n).getD i 0<18446744073709551616:=by
 by_cases h:i<k
 ·rw[mT k n i h];exact Nat.mod_lt _ (by decide)
 ·rw[List.getD,List.getElem?_eq_none (by rw[lL];omega)];decide
theorem numL_snoc(b:List UInt8){i:Nat}(h:i<b.length):lY (b.take (i+1))=lY (b.take i)+256^i*(b.getD i 0).toNat:=by
 rw[List.take_succ_eq_append_getElem h,numL_append,List.length_take,Nat.min_eq_left (by omega)]
 simp[lY,pG,List.getD,h]
theorem qr(b:List UInt8)(hb:b.length≤32):APure Tryz.prog 88 [eu b] (.tup [.agg (lH (kZ 4 (lY b))),.sc (.int .i64 0)]):=by
 have hel:=gz b
 have b1:decide ((32:Int)<(b.length:Int))=false:=dF (by omega)
 have hF:lY (b.take b.length)=lY b:=by rw[List.take_length]
 have hlt:=fun i (h:i≤b.length)=>(show lY (b.take i)<256^i by have:=pq (b.take i);rwa [List.length_take,Nat.min_eq_left h]at this)
 have hs:=fun i h=>numL_snoc b (i:=i) h
 rw[←hF]
 generalize hG:(fun i=>lY (b.take i))=G
 have hG':∀i,lY (b.take i)=G i:=fun i=>by rw[←hG]
 simp only[hG']at hlt hs ⊢
 have hz:lH (kZ 4 (G 0))=[.sc (.int .u64 0),.sc (.int .u64 0),.sc (.int .u64 0),.sc (.int .u64 0)]:=by
  rw[←hG]
  show lH (kZ 4 (lY (b.take 0)))=_
  rw[List.take_zero]
  rfl
 clear hG hG' hF
 unfold eu
 refine az (c:=⟨Tryz.prog,32,[(7,[0,0,0,1,0,0,0,0,0,0,0,0,2])],[],[]⟩) (rs:=[ResultVar.cell 2 58,ResultVar.tmp 3]) Tryz.mixed Tryz.func88 rfl rfl rfl (Nat.le_of_ble_eq_true rfl) (by kernel_rfl) fun H=>?_
 simp(disch:=omega)only[↓kX,kW,aS,simprocAttr,b1]
 intro k hk0 hk k2 hk20 hk2
 have n2:=bK0 hk2
 have hk2':=am hk2
 refine br (c:=⟨Tryz.prog,32,[(7,[0,0,0,1,0,0,0,0,0,0,0,0,2])],[],[]⟩) Tryz.mixed (by kernel_rfl) (fun m σ H'=>∃i,i+m=b.length∧σ 2=.ptr k 0∧σ 3=.sc (.int .i64 0)∧σ 4=.ptr k2 0∧σ 11=.imm 0 (bw b) b.length∧σ 12=.sc (.int .i64 b.length)∧σ 13=.sc (.int .i64 (i:Nat))∧H'=(H.set k (.cells [.sc (.int .u64 0),.sc (.int .u64 0),.sc (.int .u64 0),.sc (.int .u64 0)] 58 4)).set k2 (.cells (lH (kZ 4 (G i))) 58 4)) b.length ?_ ?_
 ·refine⟨0,by omega,?_⟩
  rw[hz]
  simp(disch:=omega)only[↓kX,kW,aS,simprocAttr]
  first|rfl|exact⟨rfl,rfl⟩|trace_state
 ·rintro m σ H' ⟨i,hi,g2,g3,g4,g11,g12,g13,rfl⟩
  by_cases hl:i<b.length
  ·have hb2:decide ((i:Int)<(b.length:Int))=true:=dT (by omega)
   have ha:=nX (l:=b) (i:=i) hl
   have hm:=byte_more (k:=4) (hlt i (by omega)) (b.getD i 0).toNat_lt (by omega:i<8*4)
   rw[←hs i hl]at hm
   have hx:=(b.getD i 0).toNat_lt
   have aw:=mf (l:=kZ 4 (G i)) (i:=i/8) (by rw[lL];omega)
   have hput:=fun x=>oL (l:=kZ 4 (G i)) (i:=i/8) (x:=x) (by rw[lL];omega)
   have hwl:(lH (kZ 4 (G i))).length=4:=by rw[lV,lL]
   have hwg:=wget 4 (G i) (i/8)
   have hp8:(256:Nat)^(i % 8)=2^(8*(i % 8)):=by rw[Nat.pow_mul]
   have hx8:(b.getD i 0).toNat*2^(8*(i % 8))<18446744073709551616:=by
    rw[←hp8]
    have h1:(b.getD i 0).toNat*256^(i % 8)≤255*256^(i % 8):=Nat.mul_le_mul_right _ (by omega)
    have h2:(256:Nat)^(i % 8)≤256^7:=Nat.pow_le_pow_right (by decide) (by omega)
    have h3:(255:Nat)*256^7<18446744073709551616:=by decide
    omega
   rw[hp8]at hm
   generalize (b.getD i 0).toNat=x at *
   obtain⟨hm1,hm2⟩:=hm
   generalize kZ 4 (G i)=W at *
   generalize hW':kZ 4 (G (i+1))=W' at *
   generalize W.getD (i/8) 0=y at *
   have w1:IntKind.i64.wrap ((i/8:Nat):Int)=((i/8:Nat):Int):=iw (by omega)
   have w2:IntKind.u64.wrap (x:Int)=(x:Int):=jw (by omega)
   have w3:8*((i % 8:Nat):Int)=((8*(i % 8):Nat):Int):=by omega
   have w4:IntKind.i64.wrap ((8*(i % 8):Nat):Int)=((8*(i % 8):Nat):Int):=iw (by omega)
   have b3:decide (((8*(i % 8):Nat):Int)<0)=false:=dF (by omega)
   have hmin:min (8*(i % 8)) 64=8*(i % 8):=by omega
   have w5:IntKind.u64.wrap ((x:Int)*2^(8*(i % 8)))=((x*2^(8*(i % 8)):Nat):Int):=by
    rw[show((x:Int)*2^(8*(i % 8)))=((x*2^(8*(i % 8)):Nat):Int) by rw[Int.natCast_mul,Int.natCast_pow];rfl]
    exact jw hx8
   have hor:bits .or .u64 (y:Int) ((x*2^(8*(i % 8)):Nat):Int)=((y+x*2^(8*(i % 8)):Nat):Int):=by
    rw[ou hwg hx8,or_add hm2,Nat.mul_comm x]
   have hput:=hput (y+x*2^(8*(i % 8)))
   rw[hm1]at hput
   simp(disch:=omega)only[↓kX,kW,aS,simprocAttr,g2,g3,g4,g11,g12,g13,hb2,ha,hel,jd,nC,w1,w2,w3,w4,w5,b3,mS,hmin,aw,hwl,set_get,set_set,hor,hput]
   exact⟨m-1,by omega,i+1,by omega,rfl,by rw[hW']⟩
  ·obtain rfl:i=b.length:=by omega
   have hb2:decide ((b.length:Int)<(b.length:Int))=false:=by simp
   have hwl:(lH (kZ 4 (G b.length))).length=4:=by rw[lV,lL]
   have htk:(lH (kZ 4 (G b.length))).take 4=lH (kZ 4 (G b.length)):=List.take_of_length_le (by omega)
   have v1:∀Y,((H.set k (.cells [.sc (.int .u64 0),.sc (.int .u64 0),.sc (.int .u64 0),.sc (.int .u64 0)] 58 4)).set k2 Y) k=some (.cells [.sc (.int .u64 0),.sc (.int .u64 0),.sc (.int .u64 0),.sc (.int .u64 0)] 58 4):=fun Y=>by
    first
     |(rw[aP n2];exact set_get)
     |(rw[aP (fun e=>n2 e.symm)];exact set_get)
   simp(disch:=omega)only[↓kX,kW,aS,simprocAttr,g2,g3,g4,g11,g12,g13,hb2,set_get,hwl,htk,v1,ah]
   exact⟨by rw[kY],((Sub.set_new hk).set_free hk2').set_free hk⟩
def bytF(n i:Nat):List UInt8:=(List.range 32).map fun t=>if t<i then UInt8.ofNat (n/256^t % 256) else 0
theorem rg(n i:Nat):(bytF n i).length=32:=by simp[bytF]
theorem bytF_zero(n:Nat):bytF n 0=List.replicate 32 0:=rfl
theorem bytF_end(n:Nat):bytF n 32=lQ 32 n:=by
 apply List.ext_getElem (by rw[rg,mL])
 intro t h1 h2
 rw[rg]at h1
 rw[qx]
 simp only[bytF,List.getElem_map,List.getElem_range]
 rw[if_pos h1]
theorem bytF_set(n:Nat){i:Nat}(h:i<32):(bytF n i).set i (UInt8.ofNat (n/256^i % 256))=bytF n (i+1):=by
 apply List.ext_getElem (by rw[List.length_set,rg,rg])
 intro t h1 h2
 by_cases e:i=t
 ·subst e
  rw[List.getElem_set_self]
  simp[bytF]
 ·rw[List.getElem_set_ne e]
  simp only[bytF,List.getElem_map,List.getElem_range]
  by_cases c:t<i
  ·rw[if_pos c,if_pos (by omega)]
  ·rw[if_neg c,if_neg (by omega)]
theorem swbytes_pure(n:Nat):APure Tryz.prog 114 [.agg (lH (kZ 4 n))] (eu (lQ 32 n)):=by
 have hwl:(lH (kZ 4 n)).length=4:=by rw[lV,lL]
 have hwt:(lH (kZ 4 n)).take 4=lH (kZ 4 n):=List.take_of_length_le (by omega)
 have hbo:=fun i (h:i<32)=>byte_of 4 n i h
 have hat:=fun i (h:i<32)=>mf (l:=kZ 4 n) (i:=i/8) (by rw[lL];omega)
 have f0:=bytF_zero n
 have fe:=bytF_end n
 have fl:=rg n
 have fs:=fun i h=>bytF_set n (i:=i) h
 have hll:=mL 32 n
 rw[←fe]at hll ⊢
 generalize bytF n=F at *
 generalize kZ 4 n=W at *
 refine az (c:=⟨Tryz.prog,25,[(1000000,[1])],[],[]⟩) (rs:=[ResultVar.tmp 2]) Tryz.mixed Tryz.func114 rfl rfl rfl (Nat.le_of_ble_eq_true rfl) (by kernel_rfl) fun H=>?_
 simp(disch:=omega)only[↓kX,kW,aS,simprocAttr,hwl,hwt]
 intro k hk0 hkn k2 hk20 hk2
 have hk2':H k2=none:=by rw[ef hkn]at hk2;exact hk2
 try rw[ef hkn]
 refine br (c:=⟨Tryz.prog,25,[(1000000,[1])],[],[]⟩) Tryz.mixed (by kernel_rfl) (fun m σ H'=>∃i:Nat,i+m=32∧σ 1=.ip (lH W) 0∧σ 3=.own k2 0 32∧σ 7=.sc (.int .i64 32)∧σ 8=.sc (.int .i64 i)∧H'=H.set k2 (.cells (bw (F i)) 5 1)) 32 ?_ ?_
 ·refine⟨0,by omega,?_⟩
  rw[f0]
  simp(disch:=omega)only[↓kX,kW,aS,simprocAttr]
  rfl
 ·rintro m σ H' ⟨i,hi,g1,g3,g7,g8,rfl⟩
  have hl:=fl i
  by_cases hlt:i<32
  ·have hb:decide ((i:Int)<32)=true:=dT (by omega)
   have ha:=hat i hlt
   have hby:=hbo i hlt
   have hput:=oT (l:=F i) (i:=i) (b:=UInt8.ofNat (n/256^i % 256)) (by omega)
   rw[fs i hlt,←hby,ofNat_mod]at hput
   have hfl:=gz (F i)
   have w1:IntKind.i64.wrap ((i/8:Nat):Int)=((i/8:Nat):Int):=iw (by omega)
   have w2:IntKind.i64.wrap (8*((i % 8:Nat):Int))=((8*(i % 8):Nat):Int):=by rw[iw (by omega)];omega
   have b2:decide (((8*(i % 8):Nat):Int)<0)=false:=dF (by omega)
   have hmin:min (8*(i % 8)) 64=8*(i % 8):=by omega
   have w3:IntKind.i64.wrap ((i:Int)+1)=((i+1:Nat):Int):=by rw[iw (by omega)];rfl
   generalize W.getD (i/8) 0=x at *
   have hmul:(8*(((i % 8:Nat)):Int))=((8*(i % 8):Nat):Int):=by omega
   generalize hF':F (i+1)=F' at *
   simp(disch:=omega)only[↓kX,kW,aS,simprocAttr,g1,g3,g7,g8,hb,ha,hwl,jd,nC,w1,w2,w3,b2,mS,hmin,shrN,hmul,↓jC,hl,hfl,hput]
   exact⟨m-1,by omega,i+1,by omega,rfl,by rw[hF']⟩
  ·obtain rfl:i=32:=by omega
   have hb:decide (((32:Nat):Int)<32)=false:=by decide
   have hfl:=gz (F 32)
   simp(disch:=omega)only[↓kX,kW,aS,simprocAttr,g1,g3,g7,g8,hb,hl]
   rw[hk2']
   refine⟨?_,Sub.set_new hk2'⟩
   show some (AV.imm 0 ((bw (F 32)).take (32*1)) 32)=_
   rw[List.take_of_length_le (by omega)]
   unfold eu
   rw[hl]
end Go.Proofs.YtcncplameclkfaaGreatDoor
end
