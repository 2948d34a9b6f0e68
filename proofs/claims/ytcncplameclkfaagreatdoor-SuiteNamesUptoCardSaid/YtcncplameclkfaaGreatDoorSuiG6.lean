/-
  Several texts in one: each says what it proves.
  Conditions: none. Lemmas only.
-/
import Derived.Test.YtcncplameclkfaaGreatDoorSuiG5
set_option linter.all false
section
set_option maxRecDepth 20000
namespace Go.Proofs.YtcncplameclkfaaGreatDoor
open Go Go.Abs Go.Proofs
def SS(H0 H:AH)(h m d:Nat)(ts:List Term):Prop:=∃k,IsI H h m k d ts∧H0 h=none∧H0 m=none∧H0 k=none∧Abs.Sub H0 H
theorem SS.sub{H0 H:AH}{h m d:Nat}{ts:List Term}(s:SS H0 H h m d ts):Abs.Sub H0 H:=by obtain⟨k,_,_,_,_,h⟩:=s;exact h
theorem SS.of_new{H:AH}{v:AV}{H':AH}(n:NewI H v H'):∃h m,v=.ptr h 0∧SS H H' h m 0 []:=by
 obtain⟨h,m,k,rfl,g,n1,n2,n3,ho⟩:=n
 exact⟨h,m,rfl,k,g,n1,n2,n3,fun x o hx=>by rw[ho x (bA0 hx n1) (bA0 hx n2) (bA0 hx n3)];exact hx⟩
theorem SS.step{H0 H H':AH}{h m k d d':Nat}{ts ts':List Term}(g:IsI H h m k d ts)(n1:H0 h=none)(n2:H0 m=none)(n3:H0 k=none)(hs:Abs.Sub H0 H)(s:StepI H h m k d' ts' H'):SS H0 H' h m d' ts':=by
 obtain⟨k',hk,g',ho⟩:=s
 have n4:H0 k'=none:=by
  rcases hk with rfl|⟨-,hf⟩
  ·exact n3
  ·exact hs.free hf
 exact⟨k',g',n1,n2,n4,fun x o hx=>by rw[ho x (bA0 hx n1) (bA0 hx n2) (bA0 hx n3) (bA0 hx n4)];exact hs x o hx⟩
theorem SS.box{H0 H:AH}{h m d:Nat}{ts:List Term}(s:SS H0 H h m d ts){b:Nat}{o:AObj}(hb:H b=none):SS (H0.set b o) (H.set b o) h m d ts:=by
 obtain⟨k,⟨k0,hi,hm,oo,hk,ho⟩,a,e,f,g⟩:=s
 have h1:=bA0 hi hb
 have h2:=bA0 hm hb
 have h3:=bA0 hk hb
 refine⟨k,⟨k0,by rw[aP h1];exact hi,by rw[aP h2];exact hm,oo,by rw[aP h3];exact hk,ho⟩,by rw[aP h1];exact a,by rw[aP h2];exact e,by rw[aP h3];exact f,g.mset⟩
theorem SS.put{H0 H:AH}{h m d:Nat}{ts:List Term}(s:SS H0 H h m d ts){b:Nat}{o o':AObj}(hb:H0 b=some o):SS (H0.set b o') (H.set b o') h m d ts:=by
 obtain⟨k,⟨k0,hi,hm,oo,hk,ho⟩,a,e,f,g⟩:=s
 have h1:¬h=b:=fun x=>bA0 hb a x.symm
 have h2:¬m=b:=fun x=>bA0 hb e x.symm
 have h3:¬k=b:=fun x=>bA0 hb f x.symm
 refine⟨k,⟨k0,by rw[aP h1];exact hi,by rw[aP h2];exact hm,oo,by rw[aP h3];exact hk,ho⟩,by rw[aP h1];exact a,by rw[aP h2];exact e,by rw[aP h3];exact f,g.mset⟩
theorem SS.kill{H0 H:AH}{h m d:Nat}{ts:List Term}(s:SS H0 H h m d ts){b:Nat}{o:AObj}(hb:H0 b=some o):SS (H0.kill b) (H.kill b) h m d ts:=by
 obtain⟨k,⟨k0,hi,hm,oo,hk,ho⟩,a,e,f,g⟩:=s
 have h1:¬h=b:=fun x=>bA0 hb a x.symm
 have h2:¬m=b:=fun x=>bA0 hb e x.symm
 have h3:¬k=b:=fun x=>bA0 hb f x.symm
 refine⟨k,⟨k0,by rw[bZ h1];exact hi,by rw[bZ h2];exact hm,oo,by rw[bZ h3];exact hk,ho⟩,by rw[bZ h1];exact a,by rw[bZ h2];exact e,by rw[bZ h3];exact f,g.mkill⟩
theorem SS.get{H0 H:AH}{h m d:Nat}{ts:List Term}(s:SS H0 H h m d ts):∃k,H h=some (.cells [.imm k (dC ts) ts.length,.mp m,.sc (.int .i64 d)] 67 3):=by
 obtain⟨k,g,_⟩:=s
 exact⟨k,g.hi⟩
structure GT(N:Nat)(ts:List Term):Prop where
 wf:∀x∈ts,wfT x
 len:ts.length≤N
 nd:ts.Nodup
 pub:∀x∈ts,x.kind=112→(fv x 0).length≤1000000
theorem GT.nil{N:Nat}:GT N []:=⟨(fun _ h=>by cases h),Nat.zero_le _,.nil,(fun _ h=>by cases h)⟩
theorem GT.num{N:Nat}{ts:List Term}(g:GT N ts){t:Term}(ht:wfT t)(hp:t.kind=112→(fv t 0).length≤1000000):GT (N+1) (fC ts t).1:=by
 unfold fC
 split
 ·exact⟨g.wf,Nat.le_succ_of_le g.len,g.nd,g.pub⟩
 ·rename_i hn
  refine⟨fun x hx=>?_,by simp;exact g.len,?_,fun x hx=>?_⟩
  ·rcases List.mem_append.1 hx with h|h
   ·exact g.wf x h
   ·rw[List.mem_singleton.1 h];exact ht
  ·rw[List.nodup_append]
   exact⟨g.nd,by simp,fun a ha b hb=>by rw[List.mem_singleton.1 hb];rintro rfl;exact hn ha⟩
  ·rcases List.mem_append.1 hx with h|h
   ·exact g.pub x h
   ·rw[List.mem_singleton.1 h];exact hp
theorem GT.mono{N M:Nat}{ts:List Term}(g:GT N ts)(h:N≤M):GT M ts:=⟨g.wf,Nat.le_trans g.len h,g.nd,g.pub⟩
def TellR(H0:AH)(h m d:Nat)(ts:List Term)(t:Term)(v:AV)(H':AH):Prop:=v=eu (fW t (fC ts t).2)∧SS H0 H' h m d (fC ts t).1
def GiveR(H0:AH)(h m d:Nat)(ts:List Term)(l:List UInt8)(v:AV)(H':AH):Prop:=∃H1,SS H0 H1 h m d ts∧OwnB l H1 v H'
theorem GiveR.tell{H0:AH}{h m d:Nat}{ts:List Term}{l:List UInt8}{v:AV}{H':AH}(g:GiveR H0 h m d ts l v H'):∃v' H2,Abs.Sub H2 H'∧Frz H' H2 v v'∧v'=eu l∧SS H0 H2 h m d ts:=by
 obtain⟨H1,s,kk,hk0,hk,rfl,rfl⟩:=g
 refine⟨_,H1,Abs.Sub.set_new hk,Frz.own set_get hk (by rw[gz];omega),?_,s⟩
 rw[List.take_of_length_le (by rw[gz];omega)]
theorem jG{H0 H:AH}{h m k d:Nat}{ts:List Term}{t:Term}{v:AV}{H':AH}(g:IsI H h m k d ts)(n1:H0 h=none)(n2:H0 m=none)(n3:H0 k=none)(hs:Abs.Sub H0 H)(r:NameR H h m k d ts t v H'):
    GiveR H0 h m d (fC ts t).1 (fW t (fC ts t).2) v H':=by
 obtain⟨H1,s,o⟩:=r
 exact⟨H1,SS.step g n1 n2 n3 hs s,o⟩
theorem hash_give{H0 H:AH}{h m d:Nat}{ts:List Term}(a:List UInt8)(ht:okT ⟨104,[a]⟩)(hg:GT 1000000 ts)(s:SS H0 H h m d ts):ACalls Tryz.prog 19 [.ptr h 0,eu a] H (GiveR H0 h m d (fC ts ⟨104,[a]⟩).1 (fW ⟨104,[a]⟩ (fC ts ⟨104,[a]⟩).2)):=by
 obtain⟨k,g,n1,n2,n3,hs⟩:=s
 exact(hash_live H h m k d ts a ht (fun x hx=>(hg.wf x hx).1) hg.len g).mono fun v H' r=>jG g n1 n2 n3 hs r
theorem hash_tell{H0 H:AH}{h m d:Nat}{ts:List Term}(a:List UInt8)(ht:okT ⟨104,[a]⟩)(hg:GT 1000000 ts)(s:SS H0 H h m d ts):ACalls Tryz.prog 19 [.ptr h 0,eu a] H (TellR H0 h m d ts ⟨104,[a]⟩):=
 (hash_give a ht hg s).freeze fun v H' r=>by
  obtain⟨v',H2,a,b,c,e⟩:=r.tell
  exact⟨v',H2,a,b,c,e⟩
theorem draw_give{H0 H:AH}{h m d:Nat}{ts:List Term}(hd:d≤1000000)(hg:GT 1000000 ts)(s:SS H0 H h m d ts):ACalls Tryz.prog 18 [.ptr h 0] H (GiveR H0 h m (d+1) (fC ts ⟨115,[fh 8 (d+1)]⟩).1 (fW ⟨115,[fh 8 (d+1)]⟩ (fC ts ⟨115,[fh 8 (d+1)]⟩).2)):=by
 obtain⟨k,g,n1,n2,n3,hs⟩:=s
 refine(draw_live H h m k d ts hd (fun x hx=>(hg.wf x hx).1) hg.len g).mono fun v H' r=>?_
 obtain⟨H1,st,o⟩:=r
 exact⟨H1,SS.step g n1 n2 n3 hs st,o⟩
theorem ja{H0 H:AH}{h m d:Nat}{ts:List Term}(hd:d≤1000000)(hg:GT 1000000 ts)(s:SS H0 H h m d ts):ACalls Tryz.prog 18 [.ptr h 0] H fun v H'=>v=eu (fW ⟨115,[fh 8 (d+1)]⟩ (fC ts ⟨115,[fh 8 (d+1)]⟩).2)∧SS H0 H' h m (d+1) (fC ts ⟨115,[fh 8 (d+1)]⟩).1:=
 (draw_give hd hg s).freeze fun v H' r=>by
  obtain⟨v',H2,a,b,c,e⟩:=r.tell
  exact⟨v',H2,a,b,c,e⟩
theorem len_ss{H0 H:AH}{h m d:Nat}{ts:List Term}(s:SS H0 H h m d ts):ACalls Tryz.prog 20 [.ptr h 0] H fun v H'=>v=.sc (.int .i64 ts.length)∧H'=H:=by
 obtain⟨k,g,n1,n2,n3,hs⟩:=s
 exact len_live H h m k d ts g
theorem new_ss(H:AH):ACalls Tryz.prog 17 [] H fun v H'=>∃h m,v=.ptr h 0∧SS H H' h m 0 []:=(new_live H).mono fun v H' r=>SS.of_new r
end Go.Proofs.YtcncplameclkfaaGreatDoor
end
section
set_option maxHeartbeats 2000000
set_option maxRecDepth 20000
namespace Go.Proofs.YtcncplameclkfaaGreatDoor
open Go Go.Abs Go.Proofs
theorem numT_new{ts:List Term}{t:Term}(h:t∉ts):fC ts t=(ts++[t],ts.length+1):=by rw[fC,if_neg h]
theorem wfT_of{t:Term}(h:t.kind≠98∧t.kind≠103∧t.kind≠118∧t.kind≠112)(h1:t.parts.length≤1000000)(h2:t.parts.flatten.length≤1000000000000):wfT t:=
 ⟨⟨fun e=>absurd e h.1,h1,h2⟩,fun e=>absurd e h.2.1,fun e=>absurd e h.2.2.1,fun e=>absurd e h.2.2.2⟩
theorem awake_facts:∃(L1 L2:List Term) (N1 N2:List UInt8), GT 1000000 L1∧GT 1000000 L2∧L2.length=2∧N1.length=32∧N2.length=32∧
    (bw N1)[0]? = some (.sc (.int .u8 115))∧(bw N1)[1]? = some (.sc (.int .u8 1))∧(bw N2)[0]? = some (.sc (.int .u8 104))∧(bw N2)[1]? = some (.sc (.int .u8 2))∧
    (fC [] ⟨115,[fh 8 (0+1)]⟩).1=L1∧fW ⟨115,[fh 8 (0+1)]⟩ (fC [] ⟨115,[fh 8 (0+1)]⟩).2=N1∧
    (fC L1 ⟨104,[[97]]⟩).1=L2∧fW ⟨104,[[97]]⟩ (fC L1 ⟨104,[[97]]⟩).2=N2∧(fC L2 ⟨104,[[97]]⟩).1=L2∧fW ⟨104,[[97]]⟩ (fC L2 ⟨104,[[97]]⟩).2=N2:=by
 have w1:wfT ⟨115,[fh 8 1]⟩:=wfT_of (by simp) (by simp) (by simp[fe0])
 have w2:wfT ⟨104,[[97]]⟩:=wfT_of (by simp) (by simp) (by simp)
 have z1:fC [] ⟨115,[fh 8 1]⟩=([⟨115,[fh 8 1]⟩],1):=numT_new (by simp)
 have z2:fC [⟨115,[fh 8 1]⟩] ⟨104,[[97]]⟩=([⟨115,[fh 8 1]⟩,⟨104,[[97]]⟩],2):=numT_new (by simp)
 have z3:fC [⟨115,[fh 8 1]⟩,⟨104,[[97]]⟩] ⟨104,[[97]]⟩=([⟨115,[fh 8 1]⟩,⟨104,[[97]]⟩],2):=by decide
 have g1:GT 1000000 [⟨115,[fh 8 1]⟩]:=by have:=(GT.nil (N:=0)).num w1 (fun h=>absurd h (by simp));rw[z1]at this;exact this.mono (by omega)
 have g2:GT 1000000 [⟨115,[fh 8 1]⟩,⟨104,[[97]]⟩]:=by have:=((GT.nil (N:=0)).num w1 (fun h=>absurd h (by simp))).num w2 (fun h=>absurd h (by simp));rw[z1,z2]at this;exact this.mono (by omega)
 exact⟨[⟨115,[fh 8 1]⟩],[⟨115,[fh 8 1]⟩,⟨104,[[97]]⟩],fW ⟨115,[fh 8 1]⟩ 1,fW ⟨104,[[97]]⟩ 2,g1,g2,rfl,by rw[j4];rfl,by rw[j4];rfl,rfl,rfl,rfl,rfl,by rw[z1],by rw[z1],by rw[z2],by rw[z2],by rw[z3],by rw[z3]⟩
theorem awake_pure:APure Tryz.prog 4 [] (.sc (.bool true)):=by
 obtain⟨L1,L2,N1,N2,g1,g2,hL,l1,l2,e0,e1,e2,e3,a1,a2,b1,b2,c1,c2⟩:=awake_facts
 have w2:okT ⟨104,[[97]]⟩:=(wfT_of (t:=⟨104,[[97]]⟩) (by simp) (by simp) (by simp)).1
 have hd:=fun(H:AH) (H1:AH) (h m:Nat) (s:SS H H1 h m 0 [])=>ja (d:=0) (by omega) GT.nil s
 have h1:=fun(H:AH) (H1:AH) (h m:Nat) (s:SS H H1 h m (0+1) L1)=>(show ACalls Tryz.prog 19 [.ptr h 0,.imm 0 (bw [97]) 1] H1 _ from hash_tell [97] w2 g1 s)
 have h2:=fun(H:AH) (H1:AH) (h m:Nat) (s:SS H H1 h m (0+1) L2)=>(show ACalls Tryz.prog 19 [.ptr h 0,.imm 0 (bw [97]) 1] H1 _ from hash_tell [97] w2 g2 s)
 have h3:=fun(H:AH) (H1:AH) (h m:Nat) (s:SS H H1 h m (0+1) L2)=>len_ss s
 unfold TellR at h1 h2
 simp only[a1,a2]at hd
 simp only[b1,b2]at h1
 simp only[c1,c2]at h2
 simp only[hL]at h3
 have he:([.sc (.int .u8 97)]:List AV)=bw [97]:=rfl
 clear a1 a2 b1 b2 c1 c2
 generalize ([97]:List UInt8)=Z at *
 refine az (c:=⟨Tryz.prog,60,[(2000005,[0,1,2,3,4,5,6,7,8,9,10,11,12,13,14,15,16,17,18,19,20,21,22,23,24,25,26,27,28,29,30,31,32,33,38,39,34,35,36,37,40,41,42,43,44,45,46,47]),(5,[0,1,0,0,0,0,1,0,0,0,0,0,1,0,0,0,0,1,0,0,0,0,0,1,0,0,0,0,0,1,0,0,0,0,0,0,2,2,2,0,0,0,0,0,2,0,0,0]),(4000005,[0]),(4000004,[1,2,3])],[1000010,1000047],[]⟩) (rs:=[ResultVar.tmp 0]) Tryz.mixed Tryz.func4 rfl rfl rfl (Nat.le_of_ble_eq_true rfl) (by kernel_rfl) fun H=>?_
 simp(disch:=omega)only[↓kX,kW,aS,simprocAttr]
 refine CallK.i (new_ss H) ?_
 rintro v H1 ⟨h,m,rfl,s1⟩
 simp(disch:=omega)only[↓kX,kW,aS,simprocAttr]
 refine CallK.i (hd _ _ _ _ s1) ?_
 rintro v H2 ⟨rfl,s2⟩
 simp(disch:=omega)only[↓kX,kW,aS,simprocAttr]
 intro k hk0 hk
 simp(disch:=omega)only[↓kX,kW,aS,simprocAttr,aj hk,he]
 refine CallK.i (h1 _ _ _ _ s2) ?_
 rintro v H3 ⟨rfl,s3⟩
 simp(disch:=omega)only[↓kX,kW,aS,simprocAttr,l1,l2,e0,e1,e2,e3]
 intro k2 hk20 hk2
 simp(disch:=omega)only[↓kX,kW,aS,simprocAttr,aj hk2,he]
 refine CallK.i (h2 _ _ _ _ s3) ?_
 rintro v H4 ⟨rfl,s4⟩
 simp(disch:=omega)only[↓kX,kW,aS,simprocAttr,l1,l2]
 refine CallK.i (h3 _ _ _ _ s4) ?_
 rintro v H5 ⟨rfl,rfl⟩
 simp(disch:=omega)only[↓kX,kW,aS,simprocAttr]
 exact s4.sub
end Go.Proofs.YtcncplameclkfaaGreatDoor
end
