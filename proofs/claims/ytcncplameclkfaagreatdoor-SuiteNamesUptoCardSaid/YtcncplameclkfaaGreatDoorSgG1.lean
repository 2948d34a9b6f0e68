/-
  Several texts in one: each says what it proves.
  Conditions: none. Lemmas only.
-/
import Derived.Test.YtcncplameclkfaaGreatDoorShaG1
import Derived.Test.YtcncplameclkfaaGreatDoorNwG4
set_option linter.all false
section
namespace Go.Shg
open Go.Sha
def keys512:List Nat:=[0x428a2f98d728ae22,0x7137449123ef65cd,0xb5c0fbcfec4d3b2f,0xe9b5dba58189dbbc,0x3956c25bf348b538,0x59f111f1b605d019,0x923f82a4af194f9b,0xab1c5ed5da6d8118,0xd807aa98a3030242,0x12835b0145706fbe,0x243185be4ee4b28c,0x550c7dc3d5ffb4e2,0x72be5d74f27b896f,0x80deb1fe3b1696b1,0x9bdc06a725c71235,0xc19bf174cf692694,0xe49b69c19ef14ad2,0xefbe4786384f25e3,0x0fc19dc68b8cd5b5,0x240ca1cc77ac9c65,0x2de92c6f592b0275,0x4a7484aa6ea6e483,0x5cb0a9dcbd41fbd4,0x76f988da831153b5,0x983e5152ee66dfab,0xa831c66d2db43210,0xb00327c898fb213f,0xbf597fc7beef0ee4,0xc6e00bf33da88fc2,0xd5a79147930aa725,0x06ca6351e003826f,0x142929670a0e6e70,0x27b70a8546d22ffc,0x2e1b21385c26c926,0x4d2c6dfc5ac42aed,0x53380d139d95b3df,0x650a73548baf63de,0x766a0abb3c77b2a8,0x81c2c92e47edaee6,0x92722c851482353b,0xa2bfe8a14cf10364,0xa81a664bbc423001,0xc24b8b70d0f89791,0xc76c51a30654be30,0xd192e819d6ef5218,0xd69906245565a910,0xf40e35855771202a,0x106aa07032bbd1b8,0x19a4c116b8d2d0c8,0x1e376c085141ab53,0x2748774cdf8eeb99,0x34b0bcb5e19b48a8,0x391c0cb3c5c95a63,0x4ed8aa4ae3418acb,0x5b9cca4f7763e373,0x682e6ff3d6b2b8a3,0x748f82ee5defb2fc,0x78a5636f43172f60,0x84c87814a1f0ab72,0x8cc702081a6439ec,0x90befffa23631e28,0xa4506cebde82bde9,0xbef9a3f7b2c67915,0xc67178f2e372532b,0xca273eceea26619c,0xd186b8c721c0c207,0xeada7dd6cde0eb1e,0xf57d4f7fee6ed178,0x06f067aa72176fba,0x0a637dc5a2c898a6,0x113f9804bef90dae,0x1b710b35131c471b,0x28db77f523047d84,0x32caab7b40c72493,0x3c9ebe0a15c9bebc,0x431d67c49c100d4c,0x4cc5d4becb3e42b6,0x597f299cfc657e2a,0x5fcb6fab3ad6faec,0x6c44198c4a475817]
def first512:List Nat:=[0x6a09e667f3bcc908,0xbb67ae8584caa73b,0x3c6ef372fe94f82b,0xa54ff53a5f1d36f1,0x510e527fade682d1,0x9b05688c2b3e6c1f,0x1f83d9abfb41bd6b,0x5be0cd19137e2179]
theorem prim_80:(nD 408).length=80:=by decide +kernel
theorem keys_eq:(nD 408).map (fun p=>oW p 3)=keys512:=by decide +kernel
theorem first_eq:(nD 18).map (fun p=>oW p 2)=first512:=by decide +kernel
theorem prim_lt_80:(nD 407).length=79:=by decide +kernel
def wordM(b:List UInt8)(t:Nat):Nat:=(((((((b.getD (t*8) 0).toNat*256+(b.getD (t*8+1) 0).toNat)*256+(b.getD (t*8+2) 0).toNat)*256+(b.getD (t*8+3) 0).toNat)*256+(b.getD (t*8+4) 0).toNat)*256+(b.getD (t*8+5) 0).toNat)*256+(b.getD (t*8+6) 0).toNat)*256+(b.getD (t*8+7) 0).toNat
theorem wordM_lt(b:List UInt8)(t:Nat):wordM b t<18446744073709551616:=by
 have h0:=(b.getD (t*8) 0).toNat_lt
 have h1:=(b.getD (t*8+1) 0).toNat_lt
 have h2:=(b.getD (t*8+2) 0).toNat_lt
 have h3:=(b.getD (t*8+3) 0).toNat_lt
 have h4:=(b.getD (t*8+4) 0).toNat_lt
 have h5:=(b.getD (t*8+5) 0).toNat_lt
 have h6:=(b.getD (t*8+6) 0).toNat_lt
 have h7:=(b.getD (t*8+7) 0).toNat_lt
 unfold wordM
 omega
def sumM(a b c d:Nat):Nat:=(shfM 64 a 19 61 6+b+shfM 64 c 1 8 7+d) % 18446744073709551616
theorem sumM_lt(a b c d:Nat):sumM a b c d<18446744073709551616:=Nat.mod_lt _ (by decide)
def nextM(w:List Nat)(t:Nat):Nat:=sumM (w.getD (t-2) 0) (w.getD (t-7) 0) (w.getD (t-15) 0) (w.getD (t-16) 0)
def wlM(b:List UInt8):Nat→List Nat
 |0=>[]
 |t+1=>wlM b t++[if t<16 then wordM b t else nextM (wlM b t) t]
theorem qU(b:List UInt8):∀t,(wlM b t).length=t
 |0=>rfl
 |t+1=>by rw[wlM,List.length_append,qU b t];rfl
theorem wlM_lt(b:List UInt8):∀t,∀x∈wlM b t,x<18446744073709551616
 |0,x,h=>by simp[wlM]at h
 |t+1,x,h=>by
  rw[wlM]at h
  rcases List.mem_append.1 h with h|h
  ·exact wlM_lt b t x h
  ·rw[List.mem_singleton.1 h]
   split
   ·exact wordM_lt b t
   ·exact sumM_lt _ _ _ _
theorem wlM_take(b:List UInt8):∀ {t n:Nat},t≤n→(wlM b n).take t=wlM b t
 | t, 0, h => by obtain rfl : t = 0 := by omega
                 rfl
 |t,n+1,h=>by
  by_cases e:t=n+1
  ·subst e;rw[List.take_of_length_le (by rw[qU];exact Nat.le_refl _)]
  ·rw[wlM,List.take_append_of_le_length (by rw[qU];omega)]
   exact wlM_take b (by omega)
def wM(b:List UInt8)(t:Nat):Nat:=(wlM b (t+1)).getD t 0
theorem wM_get(b:List UInt8){t n:Nat}(h:t<n):(wlM b n).getD t 0=wM b t:=by
 unfold wM
 rw[←wlM_take b (show t+1≤n by omega)]
 simp only[List.getD]
 rw[List.getElem?_take_of_lt (by omega)]
theorem wM_lt(b:List UInt8)(t:Nat):wM b t<18446744073709551616:=by
 unfold wM
 have h:t<(wlM b (t+1)).length:=by rw[qU];omega
 simp only[List.getD,List.getElem?_eq_getElem h,Option.getD_some]
 exact wlM_lt b _ _ (List.getElem_mem h)
theorem wM_first(b:List UInt8){t:Nat}(h:t<16):wM b t=wordM b t:=by
 unfold wM
 rw[wlM,if_pos h]
 simp[List.getD,qU]
theorem wM_eq(b:List UInt8)(t:Nat):wM b t=if t<16 then wordM b t else nextM (wlM b t) t:=by
 unfold wM
 rw[wlM]
 simp[List.getD,qU]
theorem wM_next(b:List UInt8){t:Nat}(h:16≤t):wM b t=sumM (wM b (t-2)) (wM b (t-7)) (wM b (t-15)) (wM b (t-16)):=by
 have e:=wM_eq b t
 have e1:=wM_get b (show t-2<t by omega)
 have e2:=wM_get b (show t-7<t by omega)
 have e3:=wM_get b (show t-15<t by omega)
 have e4:=wM_get b (show t-16<t by omega)
 rw[if_neg (by omega)]at e
 rw[←e1,←e2,←e3,←e4]
 exact e
structure St where
 a:Nat
 b:Nat
 c:Nat
 d:Nat
 e:Nat
 f:Nat
 g:Nat
 h:Nat
def chM(e f g:Nat):Nat:=(e &&& f) ^^^ ((18446744073709551615-e) &&& g)
def maM(a b c:Nat):Nat:=(a &&& b) ^^^ (a &&& c) ^^^ (b &&& c)
def oneM(s:St)(k w:Nat):Nat:=s.h+turM 64 s.e 14 18 41+chM s.e s.f s.g+k+w
def twoM(s:St):Nat:=turM 64 s.a 28 34 39+maM s.a s.b s.c
def stepM(s:St)(k w:Nat):St:=⟨(oneM s k w+twoM s) % 18446744073709551616,s.a,s.b,s.c,(s.d+oneM s k w) % 18446744073709551616,s.e,s.f,s.g⟩
structure OkS(s:St):Prop where
 a:s.a<18446744073709551616
 b:s.b<18446744073709551616
 c:s.c<18446744073709551616
 d:s.d<18446744073709551616
 e:s.e<18446744073709551616
 f:s.f<18446744073709551616
 g:s.g<18446744073709551616
 h:s.h<18446744073709551616
theorem stepM_ok{s:St}(o:OkS s)(k w:Nat):OkS (stepM s k w):=⟨Nat.mod_lt _ (by decide),o.a,o.b,o.c,Nat.mod_lt _ (by decide),o.e,o.f,o.g⟩
theorem ch_lt{e f g:Nat}(hf:f<18446744073709551616)(hg:g<18446744073709551616):chM e f g<18446744073709551616:=by
 have h1:e &&& f<2^64:=Nat.and_lt_two_pow _ (by omega)
 have h2:(18446744073709551615-e) &&& g<2^64:=Nat.and_lt_two_pow _ (by omega)
 exact Nat.xor_lt_two_pow h1 h2
theorem ma_lt{a b c:Nat}(hb:b<18446744073709551616)(hc:c<18446744073709551616):maM a b c<18446744073709551616:=by
 have h1:a &&& b<2^64:=Nat.and_lt_two_pow _ (by omega)
 have h2:a &&& c<2^64:=Nat.and_lt_two_pow _ (by omega)
 have h3:b &&& c<2^64:=Nat.and_lt_two_pow _ (by omega)
 exact Nat.xor_lt_two_pow (Nat.xor_lt_two_pow h1 h2) h3
def kM(t:Nat):Nat:=keys512.getD t 0
def ln(b:List UInt8)(s:St):Nat→St
 |0=>s
 |t+1=>stepM (ln b s t) (kM t) (wM b t)
theorem roundsM_ok(b:List UInt8){s:St}(o:OkS s):∀t,OkS (ln b s t)
 |0=>o
 |t+1=>stepM_ok (roundsM_ok b o t) _ _
def sY(v s:St):St:=⟨(v.a+s.a) % 18446744073709551616,(v.b+s.b) % 18446744073709551616,(v.c+s.c) % 18446744073709551616,(v.d+s.d) % 18446744073709551616,(v.e+s.e) % 18446744073709551616,(v.f+s.f) % 18446744073709551616,(v.g+s.g) % 18446744073709551616,(v.h+s.h) % 18446744073709551616⟩
def blockM(v:St)(b:List UInt8):St:=sY v (ln b v 80)
theorem blockM_ok(v:St)(b:List UInt8):OkS (blockM v b):=⟨Nat.mod_lt _ (by decide),Nat.mod_lt _ (by decide),Nat.mod_lt _ (by decide),Nat.mod_lt _ (by decide),Nat.mod_lt _ (by decide),Nat.mod_lt _ (by decide),Nat.mod_lt _ (by decide),Nat.mod_lt _ (by decide)⟩
def nL:St:=⟨0x6a09e667f3bcc908,0xbb67ae8584caa73b,0x3c6ef372fe94f82b,0xa54ff53a5f1d36f1,0x510e527fade682d1,0x9b05688c2b3e6c1f,0x1f83d9abfb41bd6b,0x5be0cd19137e2179⟩
def mW(n:Nat):Nat:=(239-n % 128) % 128
def rK(n:Nat):List UInt8:=[UInt8.ofNat (n*8/72057594037927936),UInt8.ofNat (n*8/281474976710656),UInt8.ofNat (n*8/1099511627776),UInt8.ofNat (n*8/4294967296),UInt8.ofNat (n*8/16777216),UInt8.ofNat (n*8/65536),UInt8.ofNat (n*8/256),UInt8.ofNat (n*8)]
def rJ(rest:List UInt8)(all:Nat):List UInt8:=rest++[128]++List.replicate (mW rest.length) 0++List.replicate 8 0++rK all
theorem padS_len(rest:List UInt8)(all:Nat):(rJ rest all).length % 128=0:=by
 simp only[rJ,mW,rK,List.length_append,List.length_replicate,List.length_cons,List.length_nil]
 omega
def oY(v:St)(p:List UInt8):Nat→St
 |0=>v
 |i+1=>blockM (oY v p i) ((p.drop (i*128)).take 128)
theorem blocksM_ok{v:St}(h:OkS v)(p:List UInt8):∀i,OkS (oY v p i)
 |0=>h
 |i+1=>blockM_ok _ _
def wordB(w:Nat):List UInt8:=[UInt8.ofNat (w/72057594037927936),UInt8.ofNat (w/281474976710656),UInt8.ofNat (w/1099511627776),UInt8.ofNat (w/4294967296),UInt8.ofNat (w/16777216),UInt8.ofNat (w/65536),UInt8.ofNat (w/256),UInt8.ofNat w]
def qY(s:St):List UInt8:=wordB s.a++wordB s.b++wordB s.c++wordB s.d++wordB s.e++wordB s.f++wordB s.g++wordB s.h
def nR(b:List UInt8):List UInt8:=qY (oY nL (rJ b b.length) ((rJ b b.length).length/128))
theorem pI(b:List UInt8):(nR b).length=64:=rfl
end Go.Shg
end
section
set_option maxRecDepth 20000
namespace Go.Proofs.YtcncplameclkfaaGreatDoor
open Go Go.Abs Go.Proofs Go.Box Go.Sha Go.Shg
theorem shl64{a n:Nat}:IntKind.u64.wrap ((a:Int)*2^n)=((a*2^n % 18446744073709551616:Nat):Int):=by
 have:((a:Int)*2^n)=((a*2^n:Nat):Int):=by rw[Int.natCast_mul,Int.natCast_pow];rfl
 rw[this,wcast64]
theorem rN(x n:Nat)(hx:x<18446744073709551616)(hn:n≤64):APure Tryz.prog 162 [.sc (.int .u64 x),.sc (.int .i64 n),.sc (.int .i64 64)] (.sc (.int .u64 (pJ 64 x n))):=by
 have e:=rot_or (w:=64) (lt64 hx) hn
 have h1:x/2^n<18446744073709551616:=Nat.lt_of_le_of_lt (Nat.div_le_self _ _) hx
 have h2:x*2^(64-n) % 18446744073709551616<18446744073709551616:=Nat.mod_lt _ (by decide)
 rw[←e]
 have h3:((64:Int)-(n:Int))=((64-n:Nat):Int):=by omega
 refine az (c:=⟨Tryz.prog,16,[(1,[0,0,0,0,0,0,0,0,0,0])],[],[]⟩) (rs:=[ResultVar.tmp 6]) Tryz.mixed Tryz.func162 rfl rfl rfl (Nat.le_of_ble_eq_true rfl) (by kernel_rfl) fun H=>?_
 simp(disch:=omega)only[↓kX,kW,aS,simprocAttr,mS,minL,shl64,shrN,ou h1 h2,h3]
 first|exact Abs.Sub.refl _|trace_state
def by3(a b c:Nat):AV:=.agg [.sc (.int .i64 a),.sc (.int .i64 b),.sc (.int .i64 c)]
theorem rot64{x n:Nat}(hx:x<18446744073709551616)(hn:n≤64):pJ 64 x n<18446744073709551616:=rot_lt (w:=64) hx hn
theorem xor64{a b:Nat}(ha:a<18446744073709551616)(hb:b<18446744073709551616):a ^^^ b<18446744073709551616:=xor_lt (w:=64) ha hb
theorem turned_pure(x a b c:Nat)(hx:x<18446744073709551616)(ha:a≤64)(hb:b≤64)(hc:c≤64):APure Tryz.prog 156 [.sc (.int .u64 x),by3 a b c,.sc (.int .i64 64)] (.sc (.int .u64 (turM 64 x a b c))):=by
 have h1:=rN x a hx ha
 have h2:=rN x b hx hb
 have h3:=rN x c hx hc
 have l1:=rot64 hx ha
 have l2:=rot64 hx hb
 have l3:=rot64 hx hc
 have l4:=xor64 l1 l2
 unfold turM by3
 generalize pJ 64 x a=u at *
 generalize pJ 64 x b=v at *
 generalize pJ 64 x c=w at *
 refine az (c:=⟨Tryz.prog,24,[(1,[0,0,1,0,0,0,0,1,0,0,0,0,0,1,0,0,0,0]),(1000000,[4])],[],[]⟩) (rs:=[ResultVar.tmp 6]) Tryz.mixed Tryz.func156 rfl rfl rfl (Nat.le_of_ble_eq_true rfl) (by kernel_rfl) fun H=>?_
 simp(disch:=omega)only[↓kX,kW,aS,simprocAttr]
 intro k hk0 hk
 first|refine CallK.p (h1) ?_|refine CallP.i (h1) ?_
 simp(disch:=omega)only[↓kX,kW,aS,simprocAttr]
 first|refine CallK.p (h2) ?_|refine CallP.i (h2) ?_
 simp(disch:=omega)only[↓kX,kW,aS,simprocAttr,mK l1 l2]
 first|refine CallK.p (h3) ?_|refine CallP.i (h3) ?_
 simp(disch:=omega)only[↓kX,kW,aS,simprocAttr,mK l1 l2,mK l4 l3]
 exact Sub.box hk
theorem shifted_pure(x a b c:Nat)(hx:x<18446744073709551616)(ha:a≤64)(hb:b≤64)(hc:c≤64):APure Tryz.prog 155 [.sc (.int .u64 x),by3 a b c,.sc (.int .i64 64)] (.sc (.int .u64 (shfM 64 x a b c))):=by
 have h1:=rN x a hx ha
 have h2:=rN x b hx hb
 have l1:=rot64 hx ha
 have l2:=rot64 hx hb
 have l3:x/2^c<18446744073709551616:=Nat.lt_of_le_of_lt (Nat.div_le_self _ _) hx
 have l4:=xor64 l1 l2
 unfold shfM by3
 generalize pJ 64 x a=u at *
 generalize pJ 64 x b=v at *
 refine az (c:=⟨Tryz.prog,23,[(1,[0,0,1,0,0,0,0,1,0,0,0,0,0,1,0,0,0]),(1000000,[4])],[],[]⟩) (rs:=[ResultVar.tmp 6]) Tryz.mixed Tryz.func155 rfl rfl rfl (Nat.le_of_ble_eq_true rfl) (by kernel_rfl) fun H=>?_
 simp(disch:=omega)only[↓kX,kW,aS,simprocAttr]
 intro k hk0 hk
 first|refine CallK.p (h1) ?_|refine CallP.i (h1) ?_
 simp(disch:=omega)only[↓kX,kW,aS,simprocAttr]
 first|refine CallK.p (h2) ?_|refine CallP.i (h2) ?_
 simp(disch:=omega)only[↓kX,kW,aS,simprocAttr,mK l1 l2,mS,minL,shrN,mK l4 l3]
 exact Sub.box hk
theorem glob1:globV 1=.ip (keys512.map fun x:Nat=>AV.sc (.int .u64 x)) 0:=rfl
theorem keys_at{t:Nat}(h:t<80):(keys512.map fun x:Nat=>AV.sc (.int .u64 x))[t]? = some (.sc (.int .u64 (kM t))):=by
 have hl:keys512.length=80:=rfl
 rw[List.getElem?_map,List.getElem?_eq_getElem (by omega)]
 simp[kM,List.getD,List.getElem?_eq_getElem (show t<keys512.length by omega)]
theorem key512_pure(t:Nat)(ht:t<80):APure Tryz.prog 144 [.sc (.int .i64 t)] (.sc (.int .u64 (kM t))):=by
 have hk:=keys_at ht
 have hg:=glob1
 have hl:(keys512.map fun x:Nat=>AV.sc (.int .u64 x)).length=80:=rfl
 generalize (keys512.map fun x:Nat=>AV.sc (.int .u64 x))=ks at *
 generalize kM t=y at *
 refine az (c:=⟨Tryz.prog,6,[],[],[]⟩) (rs:=[ResultVar.tmp 2]) Tryz.mixed Tryz.func144 rfl rfl rfl (Nat.le_of_ble_eq_true rfl) (by kernel_rfl) fun H=>?_
 simp(disch:=omega)only[↓kX,kW,aS,simprocAttr,hg,hk,hl]
 first|exact Abs.Sub.refl _|trace_state
def lu(ks fs:AV):AV:=.agg [.sc (.int .i64 64),.sc (.int .i64 80),.sc (.int .i64 28),.sc (.int .i64 34),.sc (.int .i64 39),.sc (.int .i64 14),.sc (.int .i64 18),.sc (.int .i64 41),.sc (.int .i64 1),.sc (.int .i64 8),.sc (.int .i64 7),.sc (.int .i64 19),.sc (.int .i64 61),.sc (.int .i64 6),ks,fs]
theorem cut_pure(ks fs:List AV)(n m:Nat)(x:Nat)(hx:x<18446744073709551616):APure Tryz.prog 161 [lu (.imm 0 ks n) (.imm 0 fs m),.sc (.int .u64 x)] (.sc (.int .u64 x)):=by
 unfold lu
 refine az (c:=⟨Tryz.prog,11,[(1000000,[2])],[],[]⟩) (rs:=[ResultVar.tmp 4]) Tryz.mixed Tryz.func161 rfl rfl rfl (Nat.le_of_ble_eq_true rfl) (by kernel_rfl) fun H=>?_
 simp(disch:=omega)only[↓kX,kW,aS,Nat.reduceBEq,Nat.reduceLT,reduceCtorEq,↓reduceIte,Nat.reduceMul,Nat.reduceAdd,Nat.reduceLeDiff,Nat.reduceEqDiff,Int.reduceToNat,Nat.reduceSub,Nat.reduceMod,Nat.reduceDiv,Int.reducePow,Int.reduceLE,Int.reduceNeg,Int.reduceLT,Int.reduceBEq,Int.reduceBNe,Int.reduceEq]
 intro k hk0 hk
 exact Sub.box hk
theorem pow_le_63{i:Nat}(h:i≤63):2^i≤9223372036854775808:=Nat.le_trans (Nat.pow_le_pow_right (by decide) h) (by decide)
theorem qu(ks fs:List AV)(n0 m0:Nat)(x n:Nat)(hx:x<18446744073709551616)(hn:n≤64):APure Tryz.prog 166 [lu (.imm 0 ks n0) (.imm 0 fs m0),.sc (.int .u64 x),.sc (.int .i64 n)] (.sc (.int .u64 (pJ 64 x n))):=by
 unfold lu
 refine az (c:=⟨Tryz.prog,31,[(1000000,[3])],[],[]⟩) (rs:=[ResultVar.tmp 6]) Tryz.mixed Tryz.func166 rfl rfl rfl (Nat.le_of_ble_eq_true rfl) (by kernel_rfl) fun H=>?_
 simp(disch:=omega)only[↓kX,kW,aS,Nat.reduceBEq,Nat.reduceLT,reduceCtorEq,↓reduceIte,Nat.reduceMul,Nat.reduceAdd,Nat.reduceLeDiff,Nat.reduceEqDiff,Int.reduceToNat,Nat.reduceSub,Nat.reduceMod,Nat.reduceDiv,Int.reducePow,Int.reduceLE,Int.reduceNeg,Int.reduceLT,Int.reduceBEq,Int.reduceBNe,Int.reduceEq]
 intro k hk0 hk
 refine br (c:=⟨Tryz.prog,31,[(1000000,[3])],[],[]⟩) Tryz.mixed (by kernel_rfl) (fun m σ H'=>∃i:Nat,i+m=64∧1≤i∧σ 1=.sc (.int .u64 x)∧σ 2=.sc (.int .i64 n)∧σ 3=.ip (AV.cellsOf (lu (.imm 0 ks n0) (.imm 0 fs m0))) 0∧σ 7=.sc (.int .u64 (2^(i-1):Nat))∧σ 8=.sc (.int .i64 i)∧H'=H) 63 ?_ ?_
 ·refine⟨1,by omega,by omega,?_⟩
  simp(disch:=omega)only[↓kX,kW,aS,Nat.reduceBEq,Nat.reduceLT,reduceCtorEq,↓reduceIte,Nat.reduceMul,Nat.reduceAdd,Nat.reduceLeDiff,Nat.reduceEqDiff,Int.reduceToNat,Nat.reduceSub,Nat.reduceMod,Nat.reduceDiv,Int.reducePow,Int.reduceLE,Int.reduceNeg,Int.reduceLT,Int.reduceBEq,Int.reduceBNe,Int.reduceEq,aj hk,lu]
  trivial
 ·rintro m σ H' ⟨i,hi,h1i,h1,h2,h3,h7,h8,rfl⟩
  by_cases hlt:i<64
  ·have hb:decide ((i:Int)<64)=true:=by simp;omega
   have hp:2^(i-1)*2=2^i:=by rw[←Nat.pow_succ];congr 1;omega
   have hq:=pow_le_63 (i:=i) (by omega)
   generalize hz:2^(i-1)=z at *
   have hw:IntKind.u64.wrap ((z:Int)*2)=((2^i:Nat):Int):=by rw[pP (n:=2) (by show z*2<_;omega),←hp]
   simp(disch:=omega)only[↓kX,kW,aS,Nat.reduceBEq,Nat.reduceLT,reduceCtorEq,↓reduceIte,Nat.reduceMul,Nat.reduceAdd,Nat.reduceLeDiff,Nat.reduceEqDiff,Int.reduceToNat,Nat.reduceSub,Nat.reduceMod,Nat.reduceDiv,Int.reducePow,Int.reduceLE,Int.reduceNeg,Int.reduceLT,Int.reduceBEq,Int.reduceBNe,Int.reduceEq,h1,h2,h3,h7,h8,hb,lu,hw]
   exact⟨m-1,by omega,i+1,by omega,by omega,rfl,rfl⟩
  ·obtain rfl:i=64:=by omega
   have hb:decide ((64:Int)<64)=false:=by decide
   simp(disch:=omega)only[↓kX,kW,aS,Nat.reduceBEq,Nat.reduceLT,reduceCtorEq,↓reduceIte,Nat.reduceMul,Nat.reduceAdd,Nat.reduceLeDiff,Nat.reduceEqDiff,Int.reduceToNat,Nat.reduceSub,Nat.reduceMod,Nat.reduceDiv,Int.reducePow,Int.reduceLE,Int.reduceNeg,Int.reduceLT,Int.reduceBEq,Int.reduceBNe,Int.reduceEq,h1,h2,h3,h7,h8,hb,lu]
   refine br (c:=⟨Tryz.prog,31,[(1000000,[3])],[],[]⟩) Tryz.mixed (by kernel_rfl) (fun m σ H''=>∃i:Nat,i+m=n∧σ 1=.sc (.int .u64 (pJ 64 x i))∧σ 2=.sc (.int .i64 n)∧σ 7=.sc (.int .u64 (9223372036854775808:Nat))∧σ 9=.sc (.int .i64 i)∧H''=H') n ?_ ?_
   ·refine⟨0,by omega,?_⟩
    simp(disch:=omega)only[↓kX,kW,aS,Nat.reduceBEq,Nat.reduceLT,reduceCtorEq,↓reduceIte,Nat.reduceMul,Nat.reduceAdd,Nat.reduceLeDiff,Nat.reduceEqDiff,Int.reduceToNat,Nat.reduceSub,Nat.reduceMod,Nat.reduceDiv,Int.reducePow,Int.reduceLE,Int.reduceNeg,Int.reduceLT,Int.reduceBEq,Int.reduceBNe,Int.reduceEq,rot_zero]
    exact⟨h1,h2,h7⟩
   ·rintro m2 σ2 H2 ⟨j,hj,g1,g2,g7,g9,rfl⟩
    by_cases hlt2:j<n
    ·have hb2:decide ((j:Int)<(n:Int))=true:=by simp;omega
     have hs:=rot_step (w:=64) (lt64 hx) (show j<64 by omega)
     have hl:=rot64 hx (show j≤64 by omega)
     generalize hz:pJ 64 x j=z at *
     have hw:IntKind.u64.wrap (((z % 2:Nat):Int)*9223372036854775808)=((z % 2*9223372036854775808:Nat):Int):=pP (n:=9223372036854775808) (by show z % 2*9223372036854775808<_;omega)
     have hw2:IntKind.u64.wrap (((z/2:Nat):Int)+((z % 2*9223372036854775808:Nat):Int))=((pJ 64 x (j+1):Nat):Int):=by rw[←hs,ph (by omega)]
     have hw3:IntKind.u64.wrap ((z/2:Nat):Int)=((z/2:Nat):Int):=jw (by omega)
     simp(disch:=omega)only[↓kX,kW,aS,Nat.reduceBEq,Nat.reduceLT,reduceCtorEq,↓reduceIte,Nat.reduceMul,Nat.reduceAdd,Nat.reduceLeDiff,Nat.reduceEqDiff,Int.reduceToNat,Nat.reduceSub,Nat.reduceMod,Nat.reduceDiv,Int.reducePow,Int.reduceLE,Int.reduceNeg,Int.reduceLT,Int.reduceBEq,Int.reduceBNe,Int.reduceEq,g1,g2,g7,g9,hb2,jd,nC,hw,hw2,hw3]
     exact⟨m2-1,by omega,j+1,by omega,rfl,rfl⟩
    ·obtain rfl:j=n:=by omega
     have hb2:decide ((j:Int)<(j:Int))=false:=by simp
     simp(disch:=omega)only[↓kX,kW,aS,Nat.reduceBEq,Nat.reduceLT,reduceCtorEq,↓reduceIte,Nat.reduceMul,Nat.reduceAdd,Nat.reduceLeDiff,Nat.reduceEqDiff,Int.reduceToNat,Nat.reduceSub,Nat.reduceMod,Nat.reduceDiv,Int.reducePow,Int.reduceLE,Int.reduceNeg,Int.reduceLT,Int.reduceBEq,Int.reduceBNe,Int.reduceEq,g1,g2,g7,g9,hb2]
     first|exact Abs.Sub.refl _|trace_state
theorem dturned_pure(ks fs:List AV)(n0 m0:Nat)(x a b c:Nat)(hx:x<18446744073709551616)(ha:a≤64)(hb:b≤64)(hc:c≤64):APure Tryz.prog 160 [lu (.imm 0 ks n0) (.imm 0 fs m0),.sc (.int .u64 x),by3 a b c] (.sc (.int .u64 (turM 64 x a b c))):=by
 have h1:=qu ks fs n0 m0 x a hx ha
 have h2:=qu ks fs n0 m0 x b hx hb
 have h3:=qu ks fs n0 m0 x c hx hc
 have l1:=rot64 hx ha
 have l2:=rot64 hx hb
 have l3:=rot64 hx hc
 have l4:=xor64 l1 l2
 unfold turM by3
 generalize pJ 64 x a=u at *
 generalize pJ 64 x b=v at *
 generalize pJ 64 x c=w at *
 have e1:=mK (a:=u) (b:=v) (by omega) (by omega)
 have e2:=mK (a:=u ^^^ v) (b:=w) (by omega) (by omega)
 unfold lu at *
 refine az (c:=⟨Tryz.prog,24,[(1,[1,0,0,1,0,1,0,0,1,0,0,1,0,0,1,0,0,0]),(1000000,[5,3])],[],[]⟩) (rs:=[ResultVar.tmp 6]) Tryz.mixed Tryz.func160 rfl rfl rfl (Nat.le_of_ble_eq_true rfl) (by kernel_rfl) fun H=>?_
 simp(disch:=omega)only[↓kX,kW,aS,Nat.reduceBEq,Nat.reduceLT,reduceCtorEq,↓reduceIte,Nat.reduceMul,Nat.reduceAdd,Nat.reduceLeDiff,Nat.reduceEqDiff,Int.reduceToNat,Nat.reduceSub,Nat.reduceMod,Nat.reduceDiv,Int.reducePow,Int.reduceLE,Int.reduceNeg,Int.reduceLT,Int.reduceBEq,Int.reduceBNe,Int.reduceEq]
 intro k hk0 hk k2 hk20 hk2
 simp(disch:=omega)only[↓kX,kW,aS,Nat.reduceBEq,Nat.reduceLT,reduceCtorEq,↓reduceIte,Nat.reduceMul,Nat.reduceAdd,Nat.reduceLeDiff,Nat.reduceEqDiff,Int.reduceToNat,Nat.reduceSub,Nat.reduceMod,Nat.reduceDiv,Int.reducePow,Int.reduceLE,Int.reduceNeg,Int.reduceLT,Int.reduceBEq,Int.reduceBNe,Int.reduceEq,aj hk2,aj hk]
 first|refine CallK.p (h1) ?_|refine CallP.i (h1) ?_
 simp(disch:=omega)only[↓kX,kW,aS,Nat.reduceBEq,Nat.reduceLT,reduceCtorEq,↓reduceIte,Nat.reduceMul,Nat.reduceAdd,Nat.reduceLeDiff,Nat.reduceEqDiff,Int.reduceToNat,Nat.reduceSub,Nat.reduceMod,Nat.reduceDiv,Int.reducePow,Int.reduceLE,Int.reduceNeg,Int.reduceLT,Int.reduceBEq,Int.reduceBNe,Int.reduceEq]
 first|refine CallK.p (h2) ?_|refine CallP.i (h2) ?_
 simp(disch:=omega)only[↓kX,kW,aS,Nat.reduceBEq,Nat.reduceLT,reduceCtorEq,↓reduceIte,Nat.reduceMul,Nat.reduceAdd,Nat.reduceLeDiff,Nat.reduceEqDiff,Int.reduceToNat,Nat.reduceSub,Nat.reduceMod,Nat.reduceDiv,Int.reducePow,Int.reduceLE,Int.reduceNeg,Int.reduceLT,Int.reduceBEq,Int.reduceBNe,Int.reduceEq,e1]
 first|refine CallK.p (h3) ?_|refine CallP.i (h3) ?_
 simp(disch:=omega)only[↓kX,kW,aS,Nat.reduceBEq,Nat.reduceLT,reduceCtorEq,↓reduceIte,Nat.reduceMul,Nat.reduceAdd,Nat.reduceLeDiff,Nat.reduceEqDiff,Int.reduceToNat,Nat.reduceSub,Nat.reduceMod,Nat.reduceDiv,Int.reducePow,Int.reduceLE,Int.reduceNeg,Int.reduceLT,Int.reduceBEq,Int.reduceBNe,Int.reduceEq,e1,e2]
 exact Abs.Sub.refl _
theorem shift_pure(x n:Nat)(hx:x<18446744073709551616)(hn:n≤64):APure Tryz.prog 152 [.sc (.int .u64 x),.sc (.int .i64 n)] (.sc (.int .u64 (x/2^n:Nat))):=by
 refine az (c:=⟨Tryz.prog,14,[],[],[]⟩) (rs:=[ResultVar.tmp 4]) Tryz.mixed Tryz.func152 rfl rfl rfl (Nat.le_of_ble_eq_true rfl) (by kernel_rfl) fun H=>?_
 simp(disch:=omega)only[↓kX,kW,aS,Nat.reduceBEq,Nat.reduceLT,reduceCtorEq,↓reduceIte,Nat.reduceMul,Nat.reduceAdd,Nat.reduceLeDiff,Nat.reduceEqDiff,Int.reduceToNat,Nat.reduceSub,Nat.reduceMod,Nat.reduceDiv,Int.reducePow,Int.reduceLE,Int.reduceNeg,Int.reduceLT,Int.reduceBEq,Int.reduceBNe,Int.reduceEq]
 refine br (c:=⟨Tryz.prog,14,[],[],[]⟩) Tryz.mixed (by kernel_rfl) (fun m σ H'=>∃i:Nat,i+m=n∧σ 0=.sc (.int .u64 (x/2^i:Nat))∧σ 1=.sc (.int .i64 n)∧σ 5=.sc (.int .i64 i)∧H'=H) n ?_ ?_
 ·refine⟨0,by omega,?_⟩
  simp(disch:=omega)only[↓kX,kW,aS,Nat.reduceBEq,Nat.reduceLT,reduceCtorEq,↓reduceIte,Nat.reduceMul,Nat.reduceAdd,Nat.reduceLeDiff,Nat.reduceEqDiff,Int.reduceToNat,Nat.reduceSub,Nat.reduceMod,Nat.reduceDiv,Int.reducePow,Int.reduceLE,Int.reduceNeg,Int.reduceLT,Int.reduceBEq,Int.reduceBNe,Int.reduceEq,Nat.pow_zero,Nat.div_one]
 ·rintro m σ H' ⟨i,hi,h0,h1,h5,rfl⟩
  by_cases hlt:i<n
  ·have hb:decide ((i:Int)<(n:Int))=true:=by simp;omega
   have hd:x/2^i/2=x/2^(i+1):=by rw[Nat.div_div_eq_div_mul,Nat.pow_succ]
   have hl:x/2^(i+1)≤x:=Nat.div_le_self _ _
   generalize x/2^i=z at *
   have hw:IntKind.u64.wrap ((z/2:Nat):Int)=((x/2^(i+1):Nat):Int):=by rw[hd,jw (by omega)]
   simp(disch:=omega)only[↓kX,kW,aS,Nat.reduceBEq,Nat.reduceLT,reduceCtorEq,↓reduceIte,Nat.reduceMul,Nat.reduceAdd,Nat.reduceLeDiff,Nat.reduceEqDiff,Int.reduceToNat,Nat.reduceSub,Nat.reduceMod,Nat.reduceDiv,Int.reducePow,Int.reduceLE,Int.reduceNeg,Int.reduceLT,Int.reduceBEq,Int.reduceBNe,Int.reduceEq,h0,h1,h5,hb,nC,hw]
   first|exact⟨m-1,by omega,i+1,by omega,rfl,rfl⟩|trace_state
  ·obtain rfl:i=n:=by omega
   have hb:decide ((i:Int)<(i:Int))=false:=by simp
   simp(disch:=omega)only[↓kX,kW,aS,Nat.reduceBEq,Nat.reduceLT,reduceCtorEq,↓reduceIte,Nat.reduceMul,Nat.reduceAdd,Nat.reduceLeDiff,Nat.reduceEqDiff,Int.reduceToNat,Nat.reduceSub,Nat.reduceMod,Nat.reduceDiv,Int.reducePow,Int.reduceLE,Int.reduceNeg,Int.reduceLT,Int.reduceBEq,Int.reduceBNe,Int.reduceEq,h0,h1,h5,hb]
   first|exact Abs.Sub.refl _|trace_state
theorem dshifted_pure(ks fs:List AV)(n0 m0:Nat)(x a b c:Nat)(hx:x<18446744073709551616)(ha:a≤64)(hb:b≤64)(hc:c≤64):APure Tryz.prog 165 [lu (.imm 0 ks n0) (.imm 0 fs m0),.sc (.int .u64 x),by3 a b c] (.sc (.int .u64 (shfM 64 x a b c))):=by
 have h1:=qu ks fs n0 m0 x a hx ha
 have h2:=qu ks fs n0 m0 x b hx hb
 have h3:=shift_pure x c (by omega) (by omega)
 have l1:=rot64 hx ha
 have l2:=rot64 hx hb
 have l3:x/2^c≤x:=Nat.div_le_self _ _
 have l4:=xor64 l1 l2
 unfold shfM by3
 generalize pJ 64 x a=u at *
 generalize pJ 64 x b=v at *
 generalize x/2^c=w at *
 have e1:=mK (a:=u) (b:=v) (by omega) (by omega)
 have e2:=mK (a:=u ^^^ v) (b:=w) (by omega) (by omega)
 unfold lu at *
 refine az (c:=⟨Tryz.prog,23,[(1,[1,0,0,1,0,1,0,0,1,0,0,0,0,1,0,0,0]),(1000000,[5,3])],[],[]⟩) (rs:=[ResultVar.tmp 6]) Tryz.mixed Tryz.func165 rfl rfl rfl (Nat.le_of_ble_eq_true rfl) (by kernel_rfl) fun H=>?_
 simp(disch:=omega)only[↓kX,kW,aS,Nat.reduceBEq,Nat.reduceLT,reduceCtorEq,↓reduceIte,Nat.reduceMul,Nat.reduceAdd,Nat.reduceLeDiff,Nat.reduceEqDiff,Int.reduceToNat,Nat.reduceSub,Nat.reduceMod,Nat.reduceDiv,Int.reducePow,Int.reduceLE,Int.reduceNeg,Int.reduceLT,Int.reduceBEq,Int.reduceBNe,Int.reduceEq]
 intro k hk0 hk k2 hk20 hk2
 simp(disch:=omega)only[↓kX,kW,aS,Nat.reduceBEq,Nat.reduceLT,reduceCtorEq,↓reduceIte,Nat.reduceMul,Nat.reduceAdd,Nat.reduceLeDiff,Nat.reduceEqDiff,Int.reduceToNat,Nat.reduceSub,Nat.reduceMod,Nat.reduceDiv,Int.reducePow,Int.reduceLE,Int.reduceNeg,Int.reduceLT,Int.reduceBEq,Int.reduceBNe,Int.reduceEq,aj hk2,aj hk]
 first|refine CallK.p (h1) ?_|refine CallP.i (h1) ?_
 simp(disch:=omega)only[↓kX,kW,aS,Nat.reduceBEq,Nat.reduceLT,reduceCtorEq,↓reduceIte,Nat.reduceMul,Nat.reduceAdd,Nat.reduceLeDiff,Nat.reduceEqDiff,Int.reduceToNat,Nat.reduceSub,Nat.reduceMod,Nat.reduceDiv,Int.reducePow,Int.reduceLE,Int.reduceNeg,Int.reduceLT,Int.reduceBEq,Int.reduceBNe,Int.reduceEq]
 first|refine CallK.p (h2) ?_|refine CallP.i (h2) ?_
 simp(disch:=omega)only[↓kX,kW,aS,Nat.reduceBEq,Nat.reduceLT,reduceCtorEq,↓reduceIte,Nat.reduceMul,Nat.reduceAdd,Nat.reduceLeDiff,Nat.reduceEqDiff,Int.reduceToNat,Nat.reduceSub,Nat.reduceMod,Nat.reduceDiv,Int.reducePow,Int.reduceLE,Int.reduceNeg,Int.reduceLT,Int.reduceBEq,Int.reduceBNe,Int.reduceEq,e1]
 first|refine CallK.p (h3) ?_|refine CallP.i (h3) ?_
 simp(disch:=omega)only[↓kX,kW,aS,Nat.reduceBEq,Nat.reduceLT,reduceCtorEq,↓reduceIte,Nat.reduceMul,Nat.reduceAdd,Nat.reduceLeDiff,Nat.reduceEqDiff,Int.reduceToNat,Nat.reduceSub,Nat.reduceMod,Nat.reduceDiv,Int.reducePow,Int.reduceLE,Int.reduceNeg,Int.reduceLT,Int.reduceBEq,Int.reduceBNe,Int.reduceEq,e1,e2]
 exact Abs.Sub.refl _
def rF(l:List Nat):List AV:=l.map fun x:Nat=>AV.sc (.int .i64 x)
theorem qf(l:List Nat):(rF l).length=l.length:=by simp[rF]
theorem numsA_at{l:List Nat}{i:Nat}(h:i<l.length):(rF l)[i]? = some (.sc (.int .i64 (l[i]:Nat))):=by simp[rF,h]
theorem numsA_snoc(l:List Nat)(x:Nat):rF l++[.sc (.int .i64 x)]=rF (l++[x]):=by simp[rF]
theorem least_mem{p:Nat}:∀ {l:List Nat},qE p l=p∨qE p l∈l
 |[]=>.inl rfl
 |q::l=>by
  unfold qE
  split
  ·exact .inr (List.mem_cons_self ..)
  ·rcases least_mem (p:=p) (l:=l) with h|h
   ·exact .inl h
   ·exact .inr (List.mem_cons_of_mem _ h)
theorem primes_pure(n N:Nat)(hn:1≤n∧n≤80)(hN:N≤500)(h1:(nD N).length=n)(h2:∀k,k<N→(nD k).length<n):APure Tryz.prog 157 [.sc (.int .i64 n)] (.imm 0 (rF (nD N)) n):=by
 refine az (c:=⟨Tryz.prog,44,[],[],[]⟩) (rs:=[ResultVar.tmp 2]) Tryz.mixed Tryz.func157 rfl rfl rfl (Nat.le_of_ble_eq_true rfl) (by kernel_rfl) fun H=>?_
 simp(disch:=omega)only[↓kX,kW,aS,simprocAttr]
 refine jn 3 (by simp(disch:=omega)only[↓kX,kW,aS,simprocAttr]) fun k hk0 hk=>?_
 refine br (c:=⟨Tryz.prog,44,[],[],[]⟩) Tryz.mixed (by kernel_rfl) (fun m σ H'=>∃K:Nat,K+m=N∧σ 0=.sc (.int .i64 n)∧σ 4=.sc (.int .i64 (K+2:Nat))∧∃k o,k≠0∧H k=none∧H'=H.set k o∧cy0 3 1 o (nD K).length∧σ 3=.imm k (rF (nD K)) (nD K).length) N ?_ ?_
 ·refine⟨0,by omega,?_⟩
  simp(disch:=omega)only[↓kX,kW,aS,simprocAttr]
  exact⟨k,_,hk0,hk,rfl,.inr ⟨rfl,rfl⟩,rfl⟩
 ·rintro m σ H' ⟨K,hK,h0,h4,k,o,hk0,hk,rfl,ho,h3⟩
  by_cases hlt:K<N
  ·have hl:=h2 K hlt
   have hb:decide (((nD K).length:Int)<(n:Int))=true:=by simp;omega
   have hmem:∀q∈nD K,2≤q∧q≤K+1:=fun q h=>prim_mem h
   have hst:nD (K+1)=if qE (K+2) (nD K)=K+2 then nD K++[K+2] else nD K:=rfl
   have hle:=least_mem (p:=K+2) (l:=nD K)
   generalize hps:nD (K+1)=ps' at *
   generalize nD K=ps at *
   have hnl:=qf ps
   simp(disch:=omega)only[↓kX,kW,aS,simprocAttr,h0,h4,h3,hb]
   refine br (c:=⟨Tryz.prog,44,[],[],[]⟩) Tryz.mixed (by kernel_rfl) (fun m2 σ2 H2=>∃i e:Nat,i+m2=ps.length∧σ2 0=.sc (.int .i64 n)∧σ2 4=.sc (.int .i64 (K+2:Nat))∧H2=H.set k o∧σ2 3=.imm k (rF ps) ps.length∧σ2 6=.sc (.int .i64 i)∧σ2 5=.sc (.int .i64 e)∧((e=K+2∧qE (K+2) (ps.drop i)=qE (K+2) ps)∨(e≠K+2∧e=qE (K+2) ps))) ps.length ?_ ?_
   ·refine⟨0,K+2,by omega,?_⟩
    simp(disch:=omega)only[↓kX,kW,aS,simprocAttr,h0,h4,h3]
    exact .inl trivial
   ·rintro m2 σ2 H2 ⟨i,e,hi,g0,g4,rfl,g3,g6,g5,hor⟩
    by_cases hil:i<ps.length
    ·have hb2:decide ((i:Int)<(ps.length:Int))=true:=by simp;omega
     by_cases he:e=K+2
     ·subst he
      have hdr:qE (K+2) (ps.drop i)=qE (K+2) ps:=by
       rcases hor with h|h
       ·exact h.2
       ·exact absurd rfl h.1
      have hat:=numsA_at hil
      have hq:=hmem _ (List.getElem_mem hil)
      rw[List.drop_eq_getElem_cons hil,qE]at hdr
      generalize ps[i]=q at *
      have hm:(((K+2:Nat):Int)).tmod (q:Int)=(((K+2) % q:Nat):Int):=rfl
      by_cases hd:(K+2) % q=0
      ·rw[if_pos hd]at hdr
       have hz:((((K+2) % q:Nat):Int) == 0)=true:=by rw[hd];rfl
       simp(disch:=omega)only[↓kX,kW,aS,simprocAttr,g0,g4,g3,g6,g5,hb2,hat,hnl,hm,hz]
       first|exact⟨m2-1,by omega,i+1,q,by omega,rfl,rfl,.inr ⟨by omega,hdr⟩⟩|trace_state
      ·rw[if_neg hd]at hdr
       have hz:((((K+2) % q:Nat):Int) == 0)=false:=beq_eq_false_iff_ne.2 fun h=>hd (Int.ofNat.inj h)
       simp(disch:=omega)only[↓kX,kW,aS,simprocAttr,g0,g4,g3,g6,g5,hb2,hat,hnl,hm,hz]
       first|exact⟨m2-1,by omega,i+1,K+2,by omega,rfl,rfl,.inl ⟨rfl,hdr⟩⟩|trace_state
     ·have hq:((e:Int) == ((K+2:Nat):Int))=false:=by simp;omega
      have hee:e=qE (K+2) ps:=by
       rcases hor with h|h
       ·exact absurd h.1 he
       ·exact h.2
      rw[if_neg (by rw[←hee];exact he)]at hst
      subst hst
      simp(disch:=omega)only[↓kX,kW,aS,simprocAttr,g0,g4,g3,g6,g5,hb2,hq]
      first|exact⟨m-1,by omega,K+1,by omega,rfl,k,o,hk0,hk,rfl,by rw[hps];exact ho,by rw[hps]⟩|trace_state
    ·obtain rfl:i=ps.length:=by omega
     have hb2:decide ((ps.length:Int)<(ps.length:Int))=false:=by simp
     have hdr:e=qE (K+2) ps:=by
      rcases hor with h|h
      ·rw[h.1,←h.2,List.drop_length];rfl
      ·exact h.2
     by_cases he:e=K+2
     ·subst he
      rw[if_pos hdr.symm]at hst
      have hap:=numsA_snoc ps (K+2)
      have hq:((((K+2:Nat):Int)) == ((K+2:Nat):Int))=true:=by simp
      subst hst
      simp(disch:=omega)only[↓kX,kW,aS,simprocAttr,g0,g4,g3,g6,g5,hb2,hq,ho,hap,hnl]
      intro k' o' hk0' hk' ho'
      rw[qf]at ho'
      exact⟨m-1,by omega,K+1,by omega,rfl,k',o',hk0',am hk',rfl,by rw[hps];exact ho',by rw[hps];simp⟩
     ·have hq:((e:Int) == ((K+2:Nat):Int))=false:=by simp;omega
      rw[if_neg (by rw[←hdr];exact he)]at hst
      subst hst
      simp(disch:=omega)only[↓kX,kW,aS,simprocAttr,g0,g4,g3,g6,g5,hb2,hq]
      first|exact⟨m-1,by omega,K+1,by omega,rfl,k,o,hk0,hk,rfl,by rw[hps];exact ho,by rw[hps]⟩|trace_state
  ·obtain rfl:K=N:=by omega
   have hb:decide ((n:Int)<(n:Int))=false:=by simp
   rw[h1]at ho h3
   simp(disch:=omega)only[↓kX,kW,aS,simprocAttr,h0,h4,h3,hb]
   first|exact Sub.set_new hk|trace_state
def lP(l:List Nat):List AV:=l.map fun x:Nat=>AV.sc (.int .u64 x)
theorem ll(l:List Nat):(lP l).length=l.length:=by simp[lP]
theorem mE{l:List Nat}{i:Nat}(h:i<l.length):(lP l)[i]? = some (.sc (.int .u64 (l.getD i 0:Nat))):=by simp[lP,List.getD,h]
theorem oh{l:List Nat}{i x:Nat}(h:i<l.length):bG (lP l) i [.sc (.int .u64 x)]=lP (l.set i x):=by
 rw[bG,List.set_eq_take_append_cons_drop,if_pos h]
 simp[lP]
theorem repA_dig(n:Nat):aQ [.sc (.int .u64 0)] n=lP (List.replicate n 0):=by
 induction n with
 |zero=>rfl
 |succ n ih=>rw[aQ,ih,List.replicate_succ];rfl
theorem mul_live(H:AH)(h:Nat)(a b:List Nat)(ha:Dig a)(hb:Dig b)(hla:a.length≤100)(hlb:b.length≤100)(hh:H h=some (.cells (lP b) 56 1)):ACalls Tryz.prog 163 [.imm 0 (lP a) a.length,.own h 0 b.length] H fun v H'=>∃k,k≠0∧H k=none∧v=.own k 0 (a.length+b.length)∧H'=H.set k (.cells (lP (mulM a b)) 56 1):=by
 have hal:=ll a
 have hbl:=ll b
 refine ao0 (c:=⟨Tryz.prog,63,[(9,[0,0,0,0,0,1,0,0,0,1,0,0,0,1,0,0,0,0,0]),(4000012,[0,1,5,6]),(4000010,[0,1,5,6,8,9]),(4000009,[0,1,5,6,8,9]),(4000001,[0,1,5])],[],[]⟩) (rs:=[ResultVar.tmp 4]) Tryz.mixed Tryz.func163 rfl rfl rfl (Nat.le_of_ble_eq_true rfl) (by kernel_rfl) ?_
 simp(disch:=omega)only[↓kX,kW,aS,simprocAttr]
 intro k hk0 hk
 have hkh:∀o,(H.set k o) h=some (.cells (lP b) 56 1):=fun o=>by
  rw[←hh]
  exact if_neg fun e=>by rw[e,hk]at hh;cases hh
 refine br (c:=⟨Tryz.prog,63,[(9,[0,0,0,0,0,1,0,0,0,1,0,0,0,1,0,0,0,0,0]),(4000012,[0,1,5,6]),(4000010,[0,1,5,6,8,9]),(4000009,[0,1,5,6,8,9]),(4000001,[0,1,5])],[],[]⟩) Tryz.mixed (by kernel_rfl) (fun m σ H'=>∃i:Nat,i+m=a.length∧σ 0=.imm 0 (lP a) a.length∧σ 1=.own h 0 b.length∧σ 5=.own k 0 (a.length+b.length)∧σ 6=.sc (.int .i64 i)∧H'=H.set k (.cells (lP (mulI a b i)) 56 1)) a.length ?_ ?_
 ·refine⟨0,by omega,?_⟩
  simp(disch:=omega)only[↓kX,kW,aS,simprocAttr]
  rw[repA_dig];rfl
 ·rintro m σ H' ⟨i,hi,h0,h1,h5,h6,rfl⟩
  by_cases hlt:i<a.length
  ·have hb1:decide ((i:Int)<(a.length:Int))=true:=by simp;omega
   have hat:=mE hlt
   have haD:=dig_getD ha i
   obtain⟨hd1,hd2,hd3⟩:=mulI_spec ha hb i (by omega)
   have hne:mulI a b (i+1)=(mulK (a.getD i 0) b i b.length (mulI a b i,0)).1.set (i+b.length) (mulK (a.getD i 0) b i b.length (mulI a b i,0)).2:=rfl
   generalize hps:mulI a b (i+1)=o' at *
   generalize mulI a b i=o at *
   generalize a.getD i 0=ai at *
   simp(disch:=omega)only[↓kX,kW,aS,simprocAttr,h0,h1,h5,h6,hb1]
   refine br (c:=⟨Tryz.prog,63,[(9,[0,0,0,0,0,1,0,0,0,1,0,0,0,1,0,0,0,0,0]),(4000012,[0,1,5,6]),(4000010,[0,1,5,6,8,9]),(4000009,[0,1,5,6,8,9]),(4000001,[0,1,5])],[],[]⟩) Tryz.mixed (by kernel_rfl) (fun m2 σ2 H2=>∃j:Nat,j+m2=b.length∧σ2 0=.imm 0 (lP a) a.length∧σ2 1=.own h 0 b.length∧σ2 5=.own k 0 (a.length+b.length)∧σ2 6=.sc (.int .i64 i)∧σ2 7=.sc (.int .u64 ((mulK ai b i j (o,0)).2:Nat))∧σ2 8=.sc (.int .i64 j)∧H2=H.set k (.cells (lP (mulK ai b i j (o,0)).1) 56 1)) b.length ?_ ?_
   ·refine⟨0,by omega,?_⟩
    simp(disch:=omega)only[↓kX,kW,aS,simprocAttr,h0,h1,h5,h6,mulK]
   ·rintro m2 σ2 H2 ⟨j,hj,g0,g1,g5,g6,g7,g8,rfl⟩
    obtain hsp:=mulK_spec (ai:=ai) (i:=i) haD hb j hd1 (by omega) (by omega)
    by_cases hltj:j<b.length
    ·have hb2:decide ((j:Int)<(b.length:Int))=true:=by simp;omega
     have hbt:=mE hltj
     have hbD:=dig_getD hb j
     have hst:mulK ai b i (j+1) (o,0)=((mulK ai b i j (o,0)).1.set (i+j) (((mulK ai b i j (o,0)).1.getD (i+j) 0+ai*b.getD j 0+(mulK ai b i j (o,0)).2) % 65536),((mulK ai b i j (o,0)).1.getD (i+j) 0+ai*b.getD j 0+(mulK ai b i j (o,0)).2)/65536):=rfl
     generalize hz:mulK ai b i j (o,0)=z at *
     obtain⟨zo,zc⟩:=z
     generalize b.getD j 0=bj at *
     obtain⟨p1,p2,p3,p4,p5⟩:=hsp
     simp only at p1 p2 p3 g7 hst
     have hw0:=dig_getD p1 (i+j)
     have hzt:=mE (l:=zo) (i:=i+j) (by omega)
     generalize hgw:zo.getD (i+j) 0=w at *
     have hP:ai*bj≤65535*65535:=Nat.mul_le_mul (by omega) (by omega)
     have hw1:IntKind.u64.wrap ((ai:Int)*(bj:Int))=((ai*bj:Nat):Int):=by rw[←Int.natCast_mul,jw (by omega)]
     generalize ai*bj=pr at *
     have hw2:IntKind.u64.wrap ((w:Int)+(pr:Int))=((w+pr:Nat):Int):=ph (by omega)
     have hw3:IntKind.u64.wrap (((w+pr:Nat):Int)+(zc:Int))=((w+pr+zc:Nat):Int):=ph (by omega)
     generalize hS:w+pr+zc=S at *
     have hw4:IntKind.u64.wrap ((S/65536:Nat):Int)=((S/65536:Nat):Int):=jw (by omega)
     have hput:=oh (l:=zo) (i:=i+j) (x:=S % 65536) (by omega)
     have hzl:=ll zo
     simp(disch:=omega)only[↓kX,kW,aS,simprocAttr,g0,g1,g5,g6,g7,g8,hb2,hkh,hat,hbt,hal,hbl,hzt,hw1,hw2,hw3,hw4,jd,nC,hput,hzl]
     first|exact⟨m2-1,by omega,j+1,by omega,by rw[hst],rfl,by rw[hst]⟩|trace_state
    ·obtain rfl:j=b.length:=by omega
     have hb2:decide ((b.length:Int)<(b.length:Int))=false:=by simp
     obtain⟨p1,p2,p3,p4,p5⟩:=hsp
     generalize mulK ai b i b.length (o,0)=z at *
     have hput:=oh (l:=z.1) (i:=i+b.length) (x:=z.2) (by omega)
     have hzl:=ll z.1
     simp(disch:=omega)only[↓kX,kW,aS,simprocAttr,g0,g1,g5,g6,g7,g8,hb2,hkh,hal,hbl,hput,hzl]
     first|exact⟨m-1,by omega,i+1,by omega,rfl,by rw[hps,hne]⟩|trace_state
  ·obtain rfl:i=a.length:=by omega
   have hb1:decide ((a.length:Int)<(a.length:Int))=false:=by simp
   simp(disch:=omega)only[↓kX,kW,aS,simprocAttr,h0,h1,h5,h6,hb1]
   exact⟨_,rfl,_,Abs.Sub.refl _,k,hk0,hk,rfl,rfl⟩
end Go.Proofs.YtcncplameclkfaaGreatDoor
end
