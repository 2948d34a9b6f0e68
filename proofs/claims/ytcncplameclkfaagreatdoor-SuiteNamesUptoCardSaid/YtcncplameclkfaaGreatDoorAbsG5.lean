/-
  Several texts in one: each says what it proves.
  Conditions: none. Lemmas only.
-/
import Derived.Test.YtcncplameclkfaaGreatDoorAbsG4
set_option linter.all false
section
namespace Go.Abs
open Go Go.RowKit
end Go.Abs
end
section
namespace Go.Abs
open Go Go.RowKit
set_option maxRecDepth 20000
def aI:=And.intro @cwp_skip<|
 And.intro @cwp_ret<|
 And.intro @cwp_exit<|
 And.intro @cwp_label<|
 And.intro @cwp_seq<|
 And.intro @cwp_block<|
 And.intro @cwp_region_t<|
 And.intro @cwp_draw_t<|
 And.intro @cwp_loop_t<|
 And.intro @AThen_normal<|
 And.intro @AThen_exit<|
 And.intro @AThen_ret<|
 And.intro @ABlock_normal<|
 And.intro @ABlock_ret<|
 And.intro @ABlock_exit<|
 And.intro @Run_nil<|
 And.intro @Run_cons<|
 And.intro @DrawK_nil<|
 And.intro @DrawK_op<|
 And.intro @RunT_nil<|
 And.intro @RunT_or<|
 And.intro @RunT_0<|
 And.intro @RunT_2<|
 And.intro @RunT_3<|
 And.intro @RunT_4<|
 And.intro @sL_load<|
 And.intro @sG_load<|
 And.intro @sG_alloc<|
 And.intro @RunD_nil<|
 And.intro @RunD_0<|
 And.intro @RunD_1<|
 And.intro @RunD_2<|
 And.intro @dstOk_some<|
 And.intro @dstOk_none<|
 And.intro @sP_move<|
 And.intro @sP_assign<|
 And.intro @sP_binOp<|
 And.intro @sP_unOp<|
 And.intro @sP_convert<|
 And.intro @sP_extract<|
 And.intro @sP_indexAddr<|
 And.intro @sP_fieldAddr<|
 And.intro @sP_load<|
 And.intro @sP_slice<|
 And.intro @sP_build<|
 And.intro @sP_buildSlice<|
 And.intro @sP_call<|
 And.intro @sQ_load<|
 And.intro @sK_load<|
 And.intro @sK_store<|
 And.intro @sK_box<|
 And.intro @sK_alloc<|
 And.intro @sK_make<|
 And.intro @sK_append<|
 And.intro @sK_call<|
 And.intro @sK_buildSlice<|
 And.intro @sK_move<|
 And.intro @sK_assign<|
 And.intro @sK_binOp<|
 And.intro @sK_unOp<|
 And.intro @sK_convert<|
 And.intro @sK_extract<|
 And.intro @sK_index<|
 And.intro @sK_indexAddr<|
 And.intro @sK_arr<|
 And.intro @sK_fieldAddr<|
 And.intro @sK_slice<|
 And.intro @sliceNK_t<|
 And.intro @slideK_t<|
 And.intro @convTK_t<|
 And.intro @growZK_t<|
 And.intro @sK_build<|
 And.intro @sK_makeFunc<|
 And.intro @sK_len<|
 And.intro @guard_none<|
 And.intro @app2_eq<|
 And.intro @bin_add<|
 And.intro @bin_sub<|
 And.intro @bin_mul<|
 And.intro @bin_quo<|
 And.intro @bin_rem<|
 And.intro @bin_and<|
 And.intro @bin_or<|
 And.intro @bin_xor<|
 And.intro @bin_eql<|
 And.intro @bin_neq<|
 And.intro @bin_lss<|
 And.intro @bin_leq<|
 And.intro @bin_gtr<|
 And.intro @bin_geq<|
 And.intro @bin_shl<|
 And.intro @bin_shr<|
 And.intro @bin_seql<|
 And.intro @bin_sneq<|
 And.intro @conv_eq<|
 And.intro @conv_int<|
 And.intro @conv_bs<|
 And.intro @extrK_u<|
 And.intro @indexAddrK_u<|
 And.intro @arrK_u<|
 And.intro @fieldAddrK_u<|
 And.intro @sliceK_u<|
 And.intro @buildK_u<|
 And.intro @buildSliceK_u<|
 And.intro @baseK_u<|
 And.intro @appendK_u<|
 And.intro @makeK_u<|
 And.intro @makeP_u<|
 And.intro @callK_x<|
 And.intro @CallX_fn<|
 And.intro @cwp_scope_t<|
 And.intro @AJump_ret<|
 And.intro @convE_x<|
 And.intro @CvX_sc<|
 And.intro @CvX_imm<|
 And.intro @CvX_own<|
 And.intro @sK_max<|
 And.intro @convB_u8<|
 And.intro @callPK_t<|
 And.intro @unK_u<|
 And.intro @bsK_true<|
 And.intro @bsK_false<|
 And.intro @index_u<|
 And.intro @cond_true.{1}<|
 And.intro @cond_false.{1}<|
 And.intro @loadK_ip<|
 And.intro @loadE_ip<|
 And.intro @loadE_ptr<|
 And.intro @storeK_ptr<|
 And.intro @kindsOf_nil<|
 And.intro @put_same<|
 And.intro @put_other<|
 And.intro @guard_at<|
 And.intro @guardAt_succ<|
 And.intro @mn<|
 And.intro @wadd64n<|
 And.intro @wmul64<|
 And.intro @wmul64n<|
 And.intro @wmul64m<|
 And.intro @wsub64<|
 And.intro @wsub64n<|
 And.intro @wcast64<|
 And.intro @bin_beql<|
 And.intro @bin_ageql<|
 And.intro @bin_agneq<|
 And.intro @bin_pneql<|
 And.intro @bin_pnneq<|
 And.intro @cwp_cond_t<|
 And.intro @sP_pick_t<|
 And.intro @sK_pick_t<|
 And.intro @Req_t<|
 And.intro @ReqT_true<|
 And.intro @optK_t<|
 And.intro @optT_some<|
 And.intro @guardAt_t<|
 And.intro @guardT_true<|
 And.intro @guardT_false<|
 And.intro @guardT_true'<|
 And.intro @guardT_false'<|
 And.intro @guardT_skip<|
 And.intro @condT_true<|
 And.intro @condT_false<|
 And.intro @pickT_true<|
 And.intro @pickT_false<|
 And.intro @ownAt_some<|
 And.intro @cutAt_some<|
 And.intro @growAt_some<|
 And.intro @convAt_some<|
 And.intro @slideAt_some<|
 And.intro @rawAt_some<|
 And.intro @own2_eq<|
 And.intro @ownK_u<|
 And.intro @ownJ_some<|
 And.intro @ownJ_none<|
 And.intro @rowK_u<|
 And.intro @sQ_len<|
 And.intro @sK_lookup<|
 And.intro @sK_upd<|
 And.intro @sK_mkmap<|
 And.intro @len2_eq<|
 And.intro @lenE_u<|
 And.intro @lookE_u<|
 And.intro @updK_u<|
 And.intro @updJ_none<|
 And.intro @mapK_false<|
 And.intro @FzT_nil<|
 And.intro @FzT_cons<|
 And.intro @sP_nil<|
 And.intro @sK_nil<|
 And.intro @optK'_eq<|
 And.intro @app3_slice<|
 And.intro @app3_int<|
 And.intro @own3_slice<|
 And.intro @own3_int<|
 And.intro @bin_mnneq<|
 And.intro @KeepT_nil<|
 And.intro @KeepT_cons<|
 And.intro @KeepQ_nil<|
 @KeepQ_cons
def aD:=And.intro @treeOf_nil<|
 And.intro @treeOf_cons<|
 And.intro @kindsOf_cons<|
 And.intro @killO_some<|
 And.intro @ev_tmp<|
 And.intro @ev_const<|
 And.intro @ev_func<|
 And.intro @ev_global<|
 And.intro @cst_int<|
 And.intro @cst_bool<|
 And.intro @cst_string<|
 And.intro @cst_slice<|
 And.intro @put_none<|
 And.intro @true_and<|
 And.intro @and_true<|
 And.intro @Bool.false_eq_true<|
 And.intro @false_implies<|
 And.intro @true_implies<|
 And.intro @List.getD_cons_zero.{0}<|
 And.intro @List.getD_cons_succ.{0}<|
 And.intro @List.map_cons.{0,0}<|
 And.intro @List.map_nil.{0,0}<|
 And.intro @List.length_cons.{0}<|
 And.intro @List.length_nil.{0}<|
 And.intro @Option.map_some.{0,0}<|
 And.intro @Option.map_none.{0,0}<|
 And.intro @List.getElem?_cons_zero.{0}<|
 And.intro @List.getElem?_cons_succ.{0}<|
 And.intro @List.contains_cons.{0}<|
 And.intro @List.contains_nil.{0}<|
 And.intro @strip_sc_int<|
 And.intro @strip_sc_bool<|
 And.intro @strip_sc_string<|
 And.intro @strip_nil<|
 And.intro @strip_imm<|
 And.intro @strip_agg<|
 And.intro @strip_ptr<|
 And.intro @List.append_nil.{0}<|
 And.intro @List.nil_append.{0}<|
 And.intro @List.cons_append.{0}<|
 And.intro @or_self<|
 And.intro @or_false<|
 And.intro @false_or<|
 And.intro @or_true<|
 And.intro @Nat.mul_one<|
 And.intro @Nat.zero_add<|
 And.intro @Nat.add_zero<|
 And.intro @beq_self_eq_true.{0}<|
 And.intro @gz<|
 And.intro @encB_isU8<|
 And.intro @strOf_encB<|
 And.intro @set_get<|
 And.intro @set_set<|
 And.intro @set_new_set<|
 And.intro @Bool.or_true<|
 And.intro @Bool.or_false<|
 And.intro @TokO_tail<|
 And.intro @TokO_nil<|
 And.intro @ne_eq.{1}<|
 And.intro @not_false_eq_true<|
 And.intro @not_true_eq_false<|
 And.intro @maxLen_eq<|
 And.intro @iw<|
 And.intro @Int.toNat_natCast<|
 And.intro @oneCell_int<|
 And.intro @List.take_zero.{0}<|
 And.intro @List.drop_zero.{0}<|
 And.intro @List.drop_succ_cons.{0}<|
 And.intro @List.take_succ_cons.{0}<|
 And.intro @List.drop_nil.{0}<|
 And.intro @List.take_nil.{0}<|
 And.intro @gt_iff_lt.{0}<|
 And.intro @Nat.lt_irrefl<|
 And.intro @List.length_append.{0}<|
 And.intro @rY<|
 And.intro @Nat.not_lt_zero<|
 And.intro @bits_u8<|
 And.intro @mS<|
 And.intro @decide_false<|
 And.intro @decide_true<|
 And.intro @min88<|
 And.intro @List.length_set.{0}<|
 And.intro @CallX_fn<|
 And.intro @CvX_sc<|
 And.intro @CvX_imm<|
 And.intro @CvX_own<|
 And.intro @minA_max<|
 And.intro @convB_u8<|
 And.intro @size_mk<|
 And.intro @Int.cast_ofNat_Int<|
 And.intro @boolE_bool<|
 And.intro @ptrE_ptr<|
 And.intro @Bool.not_true<|
 And.intro @Bool.not_false<|
 And.intro @bne_self_eq_false.{0}<|
 And.intro @extrA_tup<|
 And.intro @liveO_some<|
 And.intro @fpA_ip<|
 And.intro @fpA_ptr<|
 And.intro @unA_not<|
 And.intro @unA_neg<|
 And.intro @unA_xor<|
 And.intro @ReqT_true<|
 And.intro @ReqT_of<|
 And.intro @optT_some<|
 And.intro @guardT_true<|
 And.intro @guardT_false<|
 And.intro @guardT_true'<|
 And.intro @guardT_false'<|
 And.intro @guardT_skip<|
 And.intro @condT_true<|
 And.intro @condT_false<|
 And.intro @pickT_true<|
 And.intro @pickT_false<|
 And.intro @fillA_n<|
 And.intro @fillA_c<|
 And.intro @putC_eq<|
 And.intro @nilR_imm<|
 And.intro @mapO_some<|
 And.intro @updJ_none<|
 And.intro @lookV_no<|
 And.intro @mapA_mp<|
 And.intro @mapB_mp<|
 And.intro @lenM_slice<|
 And.intro @chkA_sc<|
 And.intro @chkU_str<|
 And.intro @Option.isSome_none.{0}<|
 And.intro @Option.getD_some.{0}<|
 And.intro @Option.getD_none.{0}<|
 And.intro @FzT_nil<|
 And.intro @FzT_cons<|
 And.intro @ptrO_ptr<|
 And.intro @zerS_eq<|
 And.intro @lenS_own<|
 And.intro @lenS_imm<|
 And.intro @List.length_replicate.{0}<|
 And.intro @List.getElem?_toArray.{0}<|
 And.intro @List.length_map.{0,0}<|
 And.intro @ordL_nil<|
 And.intro @ordL_cons<|
 And.intro @selL_nil<|
 And.intro @selL_cons<|
 And.intro @selO_some<|
 And.intro @strip0_sc_int<|
 And.intro @strip0_imm<|
 And.intro @List.all_toArray.{0}<|
 And.intro @List.all_cons.{0}<|
 And.intro @List.all_nil.{0}<|
 And.intro @Bool.and_true<|
 And.intro @cst_pointer<|
 And.intro @cst_map<|
 And.intro @mapE_map<|
 And.intro @strip_own<|
 And.intro @strip_fn<|
 And.intro @strip_ip<|
 And.intro @KeepT_nil<|
 And.intro @KeepT_cons<|
 And.intro @KeepQ_nil<|
 And.intro @KeepQ_cons<|
 @evK_done
theorem rd5(H H0:AH)(v:Value):frz H H0 (AV.sc v)=(AV.sc v).strip:=rfl
theorem rd6(H:AH)(v:Value):ad H (AV.sc v)=True:=rfl
theorem rd7(v:Value):(AV.sc v).cellsOf=[(AV.sc v)]:=rfl
theorem rd8(v:Value):(AV.sc v).fine=(AV.sc v).one:=rfl
theorem rd10(H H0:AH)(k:Nat)(cells:List AV)(n:Nat):frz H H0 (AV.imm k cells n)=(AV.imm k cells n).strip:=rfl
theorem rd11(H:AH)(k:Nat)(cells:List AV)(n:Nat):ad H (AV.imm k cells n)=True:=rfl
theorem rd12(k:Nat)(cells:List AV)(n:Nat):(AV.imm k cells n).cellsOf=[(AV.imm k cells n)]:=rfl
theorem rd13(k:Nat)(cells:List AV)(n:Nat):(AV.imm k cells n).fine=(AV.imm k cells n).one:=rfl
theorem rd14(k:Nat)(cells:List AV)(n:Nat):(AV.imm k cells n).one=true:=rfl
theorem rd16(P:Program)(H:AH)(u:TypeId)(s:List AV × Nat)(k:Nat)(cells:List AV)(n:Nat):aZ P H (some (.slice u)) (some s) (AV.imm k cells n)=none:=rfl
theorem rd35(h:Nat):(AV.mp h).cellsOf=[(AV.mp h)]:=rfl
theorem rd36(h:Nat):(AV.mp h).fine=(AV.mp h).one:=rfl
theorem rd37(h:Nat):(AV.mp h).one=true:=rfl
theorem rd90(k:IntKind):aY (.int k)=false:=rfl
theorem rd96(t:TypeId):aY (.slice t)=false:=rfl
theorem rd97(t u:TypeId):aY (.map t u)=false:=rfl
theorem rd103(σ:Sg)(H:AH)(a:Tmp)(t:TypeId):aN σ H (.cell a t)=True:=rfl
def zD:=And.intro @aG.eq_1<|
 And.intro @ixA.eq_1<|
 And.intro @ixA.eq_2<|
 And.intro @ixA.eq_3<|
 And.intro @ixA.eq_4<|
 And.intro @arA.eq_1<|
 And.intro @aX.eq_1<|
 And.intro @aV.eq_1<|
 And.intro @aV.eq_2<|
 And.intro @ag0.eq_1<|
 And.intro @ag0.eq_2<|
 And.intro @aT.eq_1<|
 And.intro @ae.eq_1<|
 And.intro @mkA.eq_1<|
 And.intro @ab0.eq_2<|
 And.intro @bnd.eq_1<|
 And.intro @bnd.eq_2<|
 And.intro @aH.eq_1<|
 And.intro @aH.eq_2<|
 And.intro @sameC.eq_1<|
 And.intro @aK.eq_1<|
 And.intro @cvO.eq_2<|
 And.intro @aJ.eq_1<|
 And.intro @aY.eq_1<|
 And.intro @aY.eq_2<|
 And.intro @aW.eq_1<|
 And.intro @aE.eq_1<|
 And.intro @aE.eq_2<|
 And.intro @aF.eq_1<|
 And.intro @aF.eq_2<|
 And.intro @aM.eq_1<|
 And.intro @aA0.eq_1<|
 And.intro @aA0.eq_2<|
 And.intro @aC.eq_1<|
 And.intro @aC.eq_2<|
 And.intro @aB0.eq_1<|
 And.intro @aB0.eq_2<|
 And.intro @aN.eq_1<|
 And.intro @ad.eq_1<|
 And.intro @frz.eq_1<|
 And.intro @aR.eq_1<|
 And.intro @aR.eq_2<|
 And.intro @aL0.eq_1<|
 And.intro @AV.cellsOf.eq_1<|
 And.intro @AV.fine.eq_1<|
 And.intro @AV.one.eq_4<|
 And.intro @aQ.eq_1<|
 And.intro @aQ.eq_2<|
 And.intro @indexK.aggOf.eq_1<|
 And.intro @indexK.aggS.eq_1<|
 And.intro @aZ.eq_1<|
 And.intro @aZ.eq_2<|
 And.intro @aU.eq_1<|
 And.intro @rd5<|
 And.intro @rd6<|
 And.intro @rd7<|
 And.intro @rd8<|
 And.intro @rd10<|
 And.intro @rd11<|
 And.intro @rd12<|
 And.intro @rd13<|
 And.intro @rd14<|
 And.intro @rd16<|
 And.intro @rd35<|
 And.intro @rd36<|
 And.intro @rd37<|
 And.intro @rd90<|
 And.intro @rd96<|
 And.intro @rd97<|
 @rd103
def zP:=@aO.eq_2
end Go.Abs
end
section
namespace Go.Abs
open Go Go.RowKit
def fh:Nat→Nat→List UInt8
 |0,_=>[]
 |k+1,n=>UInt8.ofNat n::fh k (n/256)
theorem fe0(k n:Nat):(fh k n).length=k:=by
 induction k generalizing n with
 |zero=>rfl
 |succ k ih=>simp[fh,ih]
theorem lowL_get(k n i:Nat)(h:i<k):(fh k n)[i]? = some (UInt8.ofNat (n/256^i)):=by
 induction k generalizing n i with
 |zero=>omega
 |succ k ih=>
  cases i with
  |zero=>simp[fh]
  |succ i=>
   simp only[fh,List.getElem?_cons_succ]
   rw[ih _ _ (by omega),Nat.div_div_eq_div_mul,Nat.pow_succ,Nat.mul_comm 256]
theorem lowL_take(k n i:Nat)(h:i<k):(fh k n).take (i+1)=(fh k n).take i++[UInt8.ofNat (n/256^i)]:=by
 rw[List.take_add_one,lowL_get k n i h];rfl
def cU:List UInt8→Nat
 |[]=>0
 |b::r=>b.toNat+256*cU r
theorem or_add(a b i:Nat)(h:a<256^i):a ||| b*2^(8*i)=a+256^i*b:=by
 have e:(256:Nat)^i=2^(8*i):=by rw[show(256:Nat)=2^8 from rfl,←Nat.pow_mul]
 rw[e]at h ⊢
 rw[Nat.or_comm,Nat.mul_comm b,←Nat.two_pow_add_eq_or_of_lt h b];omega
theorem worthL_low(s n:Nat):cU (fh s n)=n % 256^s:=by
 induction s generalizing n with
 |zero=>simp[fh,cU,Nat.mod_one]
 |succ s ih=>
  simp only[fh,cU,ih,UInt8.toNat_ofNat']
  have e:256^(s+1)=256*256^s:=by rw[Nat.pow_succ,Nat.mul_comm]
  rw[e,Nat.mod_mul]
theorem lowL_inj{k n m:Nat}(hn:n<256^k)(hm:m<256^k)(h:fh k n=fh k m):n=m:=by
 have:=congrArg cU h
 rw[worthL_low,worthL_low,Nat.mod_eq_of_lt hn,Nat.mod_eq_of_lt hm]at this
 exact this
abbrev fZ(ls:List (List UInt8)):AV:=.imm 0 (ls.map eu) ls.length
theorem getR{ls:List (List UInt8)}{i:Nat}(h:i<ls.length):(ls.map eu)[i]? = some (.imm 0 (bw ls[i]) ls[i].length):=by simp[h]
theorem oT{l:List UInt8}{i:Nat}{b:UInt8}(h:i<l.length):bG (bw l) i [.sc (.int .u8 b.toNat)]=bw (l.set i b):=by
 rw[ah,qP,qO]
 have e:([.sc (.int .u8 b.toNat)]:List AV)=bw [b]:=rfl
 rw[e,me,me,List.set_eq_take_append_cons_drop,if_pos h]
 rfl
structure Term where
 kind:UInt8
 parts:List (List UInt8)
deriving DecidableEq
def Term.cells(t:Term):List AV:=[.sc (.int .u8 t.kind.toNat),fZ t.parts]
def dC(ts:List Term):List AV:=ts.flatMap Term.cells
theorem jJ(ts:List Term):(dC ts).length=ts.length*2:=by
 induction ts with
 |nil=>rfl
 |cons t r ih=>simp only[dC,List.flatMap_cons,List.length_append,List.length_cons]at *;rw[ih];simp[Term.cells];omega
theorem termsC_snoc(ts:List Term)(t:Term):dC ts++[.sc (.int .u8 t.kind.toNat),.imm 0 (t.parts.map eu) t.parts.length]=dC (ts++[t]):=by simp[dC,Term.cells]
abbrev jo(t:Term):AV:=.agg [.sc (.int .u8 t.kind.toNat),.imm 0 (t.parts.map eu) t.parts.length]
theorem aj{H:AH}{k:Nat}{o:AObj}(h:H k=none):(H.set k o).kill k=H:=by
 funext j
 simp only[AH.set,AH.kill]
 split
 ·rename_i e;rw[e,h]
 ·rfl
theorem Sub.box{H:AH}{k:Nat}{o:AObj}(h:H k=none):Abs.Sub H ((H.set k o).kill k):=by rw[aj h];exact Abs.Sub.refl _
def Frz(H H0:AH)(a b:AV):Prop:=∀(C:Ctx) (u:Value),C.H=H→WR C→Abs.Sub H0 H→VR C a u→VR { C with H:=H0 } b u
theorem Frz.same{H H0:AH}{a:AV}:Frz H H0 a a:=fun C u h _ hs hv=>hv.ext (Ext.weaken (C:=C) H0 (by rw[h];exact hs))
theorem Frz.strip{H H0:AH}{a:AV}:Frz H H0 a a.strip:=fun C u h _ hs hv=>(hv.ext (Ext.weaken (C:=C) H0 (by rw[h];exact hs))).strip
theorem Frz.own{H H0:AH}{k n:Nat}{cs:List AV}{e s:Nat}(hk:H k=some (.cells cs e s))(h0:H0 k=none)(hn:n*s≤cs.length):Frz H H0 (.own k 0 n) (.imm 0 (cs.take (n*s)) n):=by
 intro C u h g hs hv
 subst h
 have:=frz_sound g hs hv (fun hh off m cs' e' s' e1 e2=>by cases e1;rw[hk]at e2;cases e2;omega)
 have e5:frz C.H H0 (.own k 0 n)=.imm 0 (cs.take (n*s)) n:=by simp[frz,h0,hk]
 rw[e5]at this
 exact this
theorem Frz.tup2{H H0:AH}{a b a' b':AV}(h:Frz H H0 a a')(g:Frz H H0 b b'):Frz H H0 (.tup [a,b]) (.tup [a',b']):=by
 intro C u hc w hs hv
 cases hv with
 |tup _ vs hsz hv=>
  refine .tup _ vs (by simpa using hsz) fun j hj=>?_
  match j,hj with
  |0,_=>exact h C _ hc w hs (hv 0 (by simp))
  |1,_=>exact g C _ hc w hs (hv 1 (by simp))
theorem ACalls.freeze{P:Program}{f:FuncId}{args:List AV}{H:AH}{R R':AV→AH→Prop}(h:ACalls P f args H R)(hr:∀v H',R v H'→∃v' H0,Abs.Sub H0 H'∧Frz H' H0 v v'∧R' v' H0):ACalls P f args H R':=by
 intro n i c w vs g hx
 refine(h n i c w vs g hx).mono ?_
 rintro u w' ⟨v,H',n',i',c',h2,h3,h4,h5⟩
 obtain⟨v',H0,g1,g2,g3⟩:=hr v H' h2
 exact⟨v',H0,n',i',c',g3,h3.weaken H0 g1,h4.trans (Ext.weaken (C:=⟨H',n',i',c',w'⟩) H0 g1),g2 ⟨H',n',i',c',w'⟩ u rfl h3 g1 h5⟩
def OwnB(l:List UInt8)(H:AH)(v:AV)(H':AH):Prop:=∃k,k≠0∧H k=none∧v=.own k 0 l.length∧H'=H.set k (.cells (bw l) 5 1)
theorem OwnB.pure{P:Program}{f:FuncId}{args:List AV}{l:List UInt8}(h:∀H,ACalls P f args H (OwnB l H)):APure P f args (eu l):=fun H=>(h H).freeze (by
 rintro v H' ⟨k,hk0,hk,rfl,rfl⟩
 refine⟨_,H,Abs.Sub.set_new hk,Frz.own set_get hk (by rw[gz];omega),?_,rfl⟩
 rw[List.take_of_length_le (by rw[gz];omega)])
theorem tokCell{n:Nat}{i c:Nat→Nat}{H:AH}{w:World}(g:WR ⟨H, n, i, c, w⟩){h e s j:Nat}{cs:List AV}(hh:H h=some (.cells cs e s))(hj:cs[j]? = some (.sc (.slice none 0 0))):
    ∃n' i' c',WR ⟨(H.set n .nilt).set h (.cells (cs.set j (.imm n [] 0)) e s),n',i',c',w⟩∧Ext ⟨H,n,i,c,w⟩ ⟨(H.set n .nilt).set h (.cells (cs.set j (.imm n [] 0)) e s),n',i',c',w⟩:=by
 have gN:=g.nilt 0
 have eN:=Ext.nilt g 0
 have hhn:h<n:=g.lt h _ hh
 have ho:(H.set n .nilt) h=some (.cells cs e s):=by
  show(if h=n then _ else _)=_
  rw[if_neg (by omega)];exact hh
 have hnt:∀m e' s',AObj.cells cs e s ≠ .tail m e' s':=by intro _ _ _ h;cases h
 have ex:=Ext.put gN ho (o':=.cells (cs.set j (.imm n [] 0)) e s) rfl w rfl (fun b _=>rfl) rfl rfl rfl hnt
 refine⟨n+1,upd i n 0,upd c n 0,WR.put gN ho (o':=.cells (cs.set j (.imm n [] 0)) e s) rfl w rfl (fun b _=>rfl) rfl rfl rfl hnt ?_,eN.trans ex⟩
 obtain⟨vs,fz,b1,b2,b3,b4,b5⟩:=gN.obj h _ ho
 refine⟨vs,fz,b1,b2,b3,by simpa using b4,fun x hx=>?_⟩
 have hx':x<cs.length:=by simpa using hx
 refine⟨?_,(b5 x hx').2⟩
 by_cases he:x=j
 ·subst he
  have h1:=(b5 x hx').1
  have e1:cs[x]=.sc (.slice none 0 0):=by rw[List.getElem?_eq_getElem hx']at hj;exact Option.some.inj hj
  rw[e1]at h1
  rw[List.getElem_set_self,bQ h1]
  exact .imm n [] 0 none 0 (Nat.le_refl _) (Nat.zero_le _) (fun _=>⟨Nat.lt_succ_self _,by show 0=rm (upd c n 0 n);rw[bC0,rm_zero],.inr ⟨rfl,rfl⟩⟩) 0 0 (fun h=>absurd rfl h) (fun _=>undef) (fun j h=>absurd h (by simp)) (fun j h=>absurd h (by simp))
 ·rw[List.getElem_set_ne (by omega)]
  exact((b5 x hx').1).ext ex
theorem ACalls.tokCell{P:Program}{f:FuncId}{args:List AV}{H:AH}{R R':AV→AH→Prop}(h:ACalls P f args H R)
    (hr:∀v H',R v H'→∃b e s j cs,H' b=some (.cells cs e s)∧cs[j]? = some (.sc (.slice none 0 0))∧∀k,k≠0→H' k=none→R' v ((H'.set k .nilt).set b (.cells (cs.set j (.imm k [] 0)) e s))):ACalls P f args H R':=by
 intro n i c w vs g hx
 refine(h n i c w vs g hx).mono ?_
 rintro u w' ⟨v,H',n',i',c',h2,h3,h4,h5⟩
 obtain⟨b,e,s,j,cs,g1,g2,g3⟩:=hr v H' h2
 obtain⟨n2,i2,c2,k1,k2⟩:=Go.Abs.tokCell h3 g1 g2
 exact⟨v,_,n2,i2,c2,g3 n' (Nat.ne_of_gt h3.pos) (bh h3),k1,h4.trans k2,h5.ext k2⟩
theorem Sub.free{H H':AH}{k:Nat}(h:Abs.Sub H H')(g:H' k=none):H k=none:=by
 cases hk:H k with
 |none=>rfl
 |some o=>rw[h k o hk]at g;cases g
theorem Sub.set_free{H H':AH}{k:Nat}{o:AObj}(h:Abs.Sub H H')(g:H k=none):Abs.Sub H (H'.set k o):=fun x o' hx=>by
 have hne:¬x=k:=by rintro rfl;rw[g]at hx;cases hx
 rw[aP hne]
 exact h x o' hx
theorem Sub.kill_free{H H':AH}{k:Nat}(h:Abs.Sub H H')(g:H k=none):Abs.Sub H (H'.kill k):=fun x o' hx=>by
 have hne:¬x=k:=by rintro rfl;rw[g]at hx;cases hx
 simp only[AH.kill,if_neg hne]
 exact h x o' hx
theorem Sub.mset{A B:AH}{k:Nat}{o:AObj}(h:Abs.Sub A B):Abs.Sub (A.set k o) (B.set k o):=fun x o' hx=>by
 simp only[AH.set]at hx ⊢
 split at hx
 ·rename_i e;rw[if_pos e];exact hx
 ·rename_i e;rw[if_neg e];exact h x o' hx
theorem Sub.mkill{A B:AH}{k:Nat}(h:Abs.Sub A B):Abs.Sub (A.kill k) (B.kill k):=fun x o' hx=>by
 simp only[AH.kill]at hx ⊢
 split at hx
 ·cases hx
 ·rename_i e;rw[if_neg e];exact h x o' hx
theorem bA0{H:AH}{a b:Nat}{o:AObj}(h:H a=some o)(g:H b=none):¬a=b:=by
 rintro rfl
 rw[h]at g;cases g
theorem bZ{H:AH}{k k':Nat}(h:¬k'=k):(H.kill k) k'=H k':=by simp[AH.kill,h]
end Go.Abs
end
