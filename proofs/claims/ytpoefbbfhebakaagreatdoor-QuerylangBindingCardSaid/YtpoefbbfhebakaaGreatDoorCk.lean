/- Several texts in one: The statement QuerylangBinding: what its map holds. Printed by genle6.py and what follows. No condition. -/
import Derived.Test.YtpoefbbfhebakaaGreatDoorCj
import Derived.Test.YtpoefbbfhebakaaGreatDoorCv4
set_option linter.unusedVariables false
set_option linter.unusedSimpArgs false

section
open Go Go.Proofs Go.RowKit
namespace Qv
theorem two_ok (k : Int) (a b : Qy) : CallsTo C 39 [.int .i64 k,.agg (encQy a),.agg (encQy b)] (fun r => r = .val (.agg (encQy (.mk k [] 0 [a,b])))) := by
 obtain ⟨ka,ta,na,la⟩ := a
 obtain ⟨kb,tb,nb,lb⟩ := b
 refine cTo' Tryz.func39 rfl rfl rfl ?_
 exact rfl
def cellsQ (k : Int) (t : Bytes) (n : Int) (l : List Qy) : List FV := [.p (.int .i64 k),.p (.str t),.p (.int .i64 n),.p (.sl (encQyL l))]
def cellsA (k : Int) (t : Bytes) (n : Int) (l : List Qy) : List AV := [.int .i64 k,.str t,.int .i64 n,.sl (encQyL l)]
noncomputable def seaT (ka kb kc : Int) (ta tb tc : Bytes) (na nb nc : Int) (la lb lc : List Qy) (T0 T1 T2 : Bytes) (kd : Nat) : List (Nat × FV) := [
 (62,.mapr 62),
 (63,.p (encS [T0,T1,T2])),
 (64,.p (.imp [.str T0])),
 (65,.p (.str T0)),
 (66,.p (.str (T0 ++ ([32,97,110,100,32] : Bytes)))),
 (67,.p (encS [T0,T1,T2])),
 (68,.p (.imp [.str T1])),
 (69,.p (.str T1)),
 (70,.p (.str ((T0 ++ ([32,97,110,100,32] : Bytes)) ++ T1))),
 (71,.p (.str (((T0 ++ ([32,97,110,100,32] : Bytes)) ++ T1) ++ ([32,111,114,32] : Bytes)))),
 (72,.p (encS [T0,T1,T2])),
 (73,.p (.imp [.str T2])),
 (74,.p (.str T2)),
 (75,.p (.str ((((T0 ++ ([32,97,110,100,32] : Bytes)) ++ T1) ++ ([32,111,114,32] : Bytes)) ++ T2))),
 (76,.p (.fn (.func 39) [] [])),
 (77,.p (.fn (.func 39) [] [])),
 (78,.agg (cellsQ ka ta na la)),
 (79,.agg (cellsQ kb tb nb lb)),
 (80,.p (.agg (encQy (Qy.mk 10 [] 0 [(Qy.mk ka ta na la),(Qy.mk kb tb nb lb)])))),
 (81,.agg (cellsQ kc tc nc lc)),
 (82,.p (.agg (encQy (Qy.mk 11 [] 0 [(Qy.mk 10 [] 0 [(Qy.mk ka ta na la),(Qy.mk kb tb nb lb)]),(Qy.mk kc tc nc lc)])))),
 (83,.p (encS [T0,T1,T2])),
 (84,.p (.imp [.str T0])),
 (85,.p (.str T0)),
 (86,.p (.str (T0 ++ ([32,111,114,32] : Bytes)))),
 (87,.p (encS [T0,T1,T2])),
 (88,.p (.imp [.str T1])),
 (89,.p (.str T1)),
 (90,.p (.str ((T0 ++ ([32,111,114,32] : Bytes)) ++ T1))),
 (91,.p (.str (((T0 ++ ([32,111,114,32] : Bytes)) ++ T1) ++ ([32,97,110,100,32] : Bytes)))),
 (92,.p (encS [T0,T1,T2])),
 (93,.p (.imp [.str T2])),
 (94,.p (.str T2)),
 (95,.p (.str ((((T0 ++ ([32,111,114,32] : Bytes)) ++ T1) ++ ([32,97,110,100,32] : Bytes)) ++ T2))),
 (96,.p (.fn (.func 39) [] [])),
 (97,.agg (cellsQ ka ta na la)),
 (98,.p (.fn (.func 39) [] [])),
 (99,.agg (cellsQ kb tb nb lb)),
 (100,.agg (cellsQ kc tc nc lc)),
 (101,.p (.agg (encQy (Qy.mk 10 [] 0 [(Qy.mk kb tb nb lb),(Qy.mk kc tc nc lc)])))),
 (102,.p (.agg (encQy (Qy.mk 11 [] 0 [(Qy.mk ka ta na la),(Qy.mk 10 [] 0 [(Qy.mk kb tb nb lb),(Qy.mk kc tc nc lc)])])))),
 (103,.p (encS [T0,T1,T2])),
 (104,.p (.imp [.str T0])),
 (105,.p (.str T0)),
 (106,.p (.str (T0 ++ ([32,97,110,100,32] : Bytes)))),
 (107,.p (encS [T0,T1,T2])),
 (108,.p (.imp [.str T1])),
 (109,.p (.str T1)),
 (110,.p (.str ((T0 ++ ([32,97,110,100,32] : Bytes)) ++ T1))),
 (111,.p (.str (((T0 ++ ([32,97,110,100,32] : Bytes)) ++ T1) ++ ([32,97,110,100,32] : Bytes)))),
 (112,.p (encS [T0,T1,T2])),
 (113,.p (.imp [.str T2])),
 (114,.p (.str T2)),
 (115,.p (.str ((((T0 ++ ([32,97,110,100,32] : Bytes)) ++ T1) ++ ([32,97,110,100,32] : Bytes)) ++ T2))),
 (116,.p (.fn (.func 39) [] [])),
 (117,.p (.fn (.func 39) [] [])),
 (118,.agg (cellsQ ka ta na la)),
 (119,.agg (cellsQ kb tb nb lb)),
 (120,.p (.agg (encQy (Qy.mk 10 [] 0 [(Qy.mk ka ta na la),(Qy.mk kb tb nb lb)])))),
 (121,.agg (cellsQ kc tc nc lc)),
 (122,.p (.agg (encQy (Qy.mk 10 [] 0 [(Qy.mk 10 [] 0 [(Qy.mk ka ta na la),(Qy.mk kb tb nb lb)]),(Qy.mk kc tc nc lc)])))),
 (123,.p (encS [T0,T1,T2])),
 (124,.p (.imp [.str T0])),
 (125,.p (.str T0)),
 (126,.p (.str (T0 ++ ([32,111,114,32] : Bytes)))),
 (127,.p (encS [T0,T1,T2])),
 (128,.p (.imp [.str T1])),
 (129,.p (.str T1)),
 (130,.p (.str ((T0 ++ ([32,111,114,32] : Bytes)) ++ T1))),
 (131,.p (.str (((T0 ++ ([32,111,114,32] : Bytes)) ++ T1) ++ ([32,111,114,32] : Bytes)))),
 (132,.p (encS [T0,T1,T2])),
 (133,.p (.imp [.str T2])),
 (134,.p (.str T2)),
 (135,.p (.str ((((T0 ++ ([32,111,114,32] : Bytes)) ++ T1) ++ ([32,111,114,32] : Bytes)) ++ T2))),
 (136,.p (.fn (.func 39) [] [])),
 (137,.p (.fn (.func 39) [] [])),
 (138,.agg (cellsQ ka ta na la)),
 (139,.agg (cellsQ kb tb nb lb)),
 (140,.p (.agg (encQy (Qy.mk 11 [] 0 [(Qy.mk ka ta na la),(Qy.mk kb tb nb lb)])))),
 (141,.agg (cellsQ kc tc nc lc)),
 (142,.p (.agg (encQy (Qy.mk 11 [] 0 [(Qy.mk 11 [] 0 [(Qy.mk ka ta na la),(Qy.mk kb tb nb lb)]),(Qy.mk kc tc nc lc)])))),
 (143,.p (.str (wordB kd))),
 (144,.p (.str ((wordB kd) ++ ([32] : Bytes)))),
 (145,.p (encS [T0,T1,T2])),
 (146,.p (.imp [.str T0])),
 (147,.p (.str T0)),
 (148,.p (.str (((wordB kd) ++ ([32] : Bytes)) ++ T0))),
 (149,.p (.str ((((wordB kd) ++ ([32] : Bytes)) ++ T0) ++ ([32,97,110,100,32] : Bytes)))),
 (150,.p (encS [T0,T1,T2])),
 (151,.p (.imp [.str T1])),
 (152,.p (.str T1)),
 (153,.p (.str (((((wordB kd) ++ ([32] : Bytes)) ++ T0) ++ ([32,97,110,100,32] : Bytes)) ++ T1))),
 (154,.p (.fn (.func 39) [] [])),
 (155,.agg (cellsQ kd [] 0 [(Qy.mk ka ta na la)])),
 (156,.agg (cellsQ kb tb nb lb)),
 (157,.p (.agg (encQy (Qy.mk 10 [] 0 [(oneQ kd (Qy.mk ka ta na la)),(Qy.mk kb tb nb lb)])))),
 (158,.p (encS [T0,T1,T2])),
 (159,.p (.imp [.str T1])),
 (160,.p (.str T1)),
 (161,.p (.str (T1 ++ ([32,111,114,32] : Bytes)))),
 (162,.p (.str (wordB kd))),
 (163,.p (.str ((T1 ++ ([32,111,114,32] : Bytes)) ++ (wordB kd)))),
 (164,.p (.str (((T1 ++ ([32,111,114,32] : Bytes)) ++ (wordB kd)) ++ ([10] : Bytes)))),
 (165,.p (encS [T0,T1,T2])),
 (166,.p (.imp [.str T0])),
 (167,.p (.str T0)),
 (168,.p (.str ((((T1 ++ ([32,111,114,32] : Bytes)) ++ (wordB kd)) ++ ([10] : Bytes)) ++ T0))),
 (169,.p (.fn (.func 39) [] [])),
 (170,.agg (cellsQ kb tb nb lb)),
 (171,.agg (cellsQ kd [] 0 [(Qy.mk ka ta na la)])),
 (172,.p (.agg (encQy (Qy.mk 11 [] 0 [(Qy.mk kb tb nb lb),(oneQ kd (Qy.mk ka ta na la))])))),
 (173,.p (encS [T0,T1,T2])),
 (174,.p (.imp [.str T0])),
 (175,.p (.str T0)),
 (176,.p (.str (([40] : Bytes) ++ T0))),
 (177,.p (.str ((([40] : Bytes) ++ T0) ++ ([32,111,114,32] : Bytes)))),
 (178,.p (encS [T0,T1,T2])),
 (179,.p (.imp [.str T1])),
 (180,.p (.str T1)),
 (181,.p (.str (((([40] : Bytes) ++ T0) ++ ([32,111,114,32] : Bytes)) ++ T1))),
 (182,.p (.str ((((([40] : Bytes) ++ T0) ++ ([32,111,114,32] : Bytes)) ++ T1) ++ ([41,97,110,100,40] : Bytes)))),
 (183,.p (encS [T0,T1,T2])),
 (184,.p (.imp [.str T2])),
 (185,.p (.str T2)),
 (186,.p (.str (((((([40] : Bytes) ++ T0) ++ ([32,111,114,32] : Bytes)) ++ T1) ++ ([41,97,110,100,40] : Bytes)) ++ T2))),
 (187,.p (.str ((((((([40] : Bytes) ++ T0) ++ ([32,111,114,32] : Bytes)) ++ T1) ++ ([41,97,110,100,40] : Bytes)) ++ T2) ++ ([41] : Bytes)))),
 (188,.p (.fn (.func 39) [] [])),
 (189,.p (.fn (.func 39) [] [])),
 (190,.agg (cellsQ ka ta na la)),
 (191,.agg (cellsQ kb tb nb lb)),
 (192,.p (.agg (encQy (Qy.mk 11 [] 0 [(Qy.mk ka ta na la),(Qy.mk kb tb nb lb)])))),
 (193,.agg (cellsQ kc tc nc lc)),
 (194,.p (.agg (encQy (Qy.mk 10 [] 0 [(Qy.mk 11 [] 0 [(Qy.mk ka ta na la),(Qy.mk kb tb nb lb)]),(Qy.mk kc tc nc lc)])))),
 (195,.mapr 62),
 (196,.junk)]
def seaB (T0 T1 T2 : Bytes) (kd : Nat) : List (Nat × FV) := [(5,.ptr 5 0),(6,.ptr 6 0),(7,.ptr 7 0),(8,.p (encS [T0,T1,T2])),(13,.p (.fn (.func 39) [] [])),(15,.ptr 15 0),(16,.p (.str (wordB kd)))]
def seaO (ka kb kc : Int) (ta tb tc : Bytes) (na nb nc : Int) (la lb lc : List Qy) (kd : Nat) : List (Nat × List FV) := [(5,cellsQ ka ta na la),(6,cellsQ kb tb nb lb),(7,cellsQ kc tc nc lc),(15,cellsQ kd [] 0 [(Qy.mk ka ta na la)])]
def seaK : Kinds := ⟨[],[],[0,21,42,63,84,100,116,139,141],[]⟩
theorem kill_seaT (ka kb kc : Int) (ta tb tc : Bytes) (na nb nc : Int) (la lb lc : List Qy) (T0 T1 T2 : Bytes) (kd : Nat) : KillT 62 195 (seaT ka kb kc ta tb tc na nb nc la lb lc T0 T1 T2 kd ++ seaB T0 T1 T2 kd) := ⟨.inr (.inl rfl),.inl rfl,.inl rfl,.inl rfl,.inl rfl,.inl rfl,.inl rfl,.inl rfl,.inl rfl,.inl rfl,.inl rfl,.inl rfl,.inl rfl,.inl rfl,.inl rfl,.inl rfl,.inl rfl,.inl rfl,.inl rfl,.inl rfl,.inl rfl,.inl rfl,.inl rfl,.inl rfl,.inl rfl,.inl rfl,.inl rfl,.inl rfl,.inl rfl,.inl rfl,.inl rfl,.inl rfl,.inl rfl,.inl rfl,.inl rfl,.inl rfl,.inl rfl,.inl rfl,.inl rfl,.inl rfl,.inl rfl,.inl rfl,.inl rfl,.inl rfl,.inl rfl,.inl rfl,.inl rfl,.inl rfl,.inl rfl,.inl rfl,.inl rfl,.inl rfl,.inl rfl,.inl rfl,.inl rfl,.inl rfl,.inl rfl,.inl rfl,.inl rfl,.inl rfl,.inl rfl,.inl rfl,.inl rfl,.inl rfl,.inl rfl,.inl rfl,.inl rfl,.inl rfl,.inl rfl,.inl rfl,.inl rfl,.inl rfl,.inl rfl,.inl rfl,.inl rfl,.inl rfl,.inl rfl,.inl rfl,.inl rfl,.inl rfl,.inl rfl,.inl rfl,.inl rfl,.inl rfl,.inl rfl,.inl rfl,.inl rfl,.inl rfl,.inl rfl,.inl rfl,.inl rfl,.inl rfl,.inl rfl,.inl rfl,.inl rfl,.inl rfl,.inl rfl,.inl rfl,.inl rfl,.inl rfl,.inl rfl,.inl rfl,.inl rfl,.inl rfl,.inl rfl,.inl rfl,.inl rfl,.inl rfl,.inl rfl,.inl rfl,.inl rfl,.inl rfl,.inl rfl,.inl rfl,.inl rfl,.inl rfl,.inl rfl,.inl rfl,.inl rfl,.inl rfl,.inl rfl,.inl rfl,.inl rfl,.inl rfl,.inl rfl,.inl rfl,.inl rfl,.inl rfl,.inl rfl,.inl rfl,.inl rfl,.inl rfl,.inl rfl,.inr (.inr rfl),.inl rfl,.inl rfl,.inl rfl,.inl rfl,.inl rfl,.inl rfl,.inl rfl,.inl rfl,trivial⟩
end Qv

end

section
open Go Go.Proofs Go.RowKit
namespace Qv
def GoodP (p : AV × AV) : Prop := ∃ (s : Bytes) (k : Int) (t : Bytes) (n : Int) (l : List Qy),p = (.str s,.agg (encQy (.mk k t n l))) ∧ BindP s (.mk k t n l)
theorem good_fits {l : List (AV × AV)} (h : ∀ p,p ∈ l → GoodP p) : ∀ p,p ∈ toF l → fitsK false [.str] p.1 = true := fun p hp => by
 obtain ⟨q,hq,rfl⟩ := List.mem_map.1 hp
 obtain ⟨s,k,t,n,l',rfl,-⟩ := h q hq
 rfl
theorem good_upd {l : List (AV × AV)} (h : ∀ p,p ∈ l → GoodP p) {s : Bytes} {w : Qy} (hw : BindP s w) : ∀ p,p ∈ updM (.str s) (.agg (encQy w)) l → GoodP p := fun p hp => by
 rcases updM_mem hp with rfl | hp
 ·obtain ⟨k,t,n,l'⟩ := w
  exact ⟨s,k,t,n,l',rfl,hw⟩
 ·exact h p hp
theorem memN_mem {i : Nat} : ∀ {l : List Nat},memN i l = true → i ∈ l
 | d :: ds,h => by
   unfold memN at h
   split at h
   ·rename_i hb
    exact Nat.eq_of_beq_eq_true hb ▸ List.mem_cons_self
   ·exact List.mem_cons_of_mem _ (memN_mem h)
theorem seaK_of {k : Nat} (h : seaK.of k ≠ 0) : k ∈ seaK.wild := by
 unfold Kinds.of at h
 split at h
 ·rename_i h1; exact absurd (memN_mem h1) (List.not_mem_nil)
 ·split at h
  ·rename_i h1; exact absurd (memN_mem h1) (List.not_mem_nil)
  ·split at h
   ·rename_i h1; exact memN_mem h1
   ·exact absurd rfl h
theorem edge0 {o : Oper} (h : memEdge 0 o.after.toList = true) : ∃ e : Edge,e ∈ o.after ∧ Region.binds .any e = true ∧ e.on = 0 := by
 obtain ⟨e,h1,h2,h3⟩ := memEdge_spec h
 exact ⟨e,by simpa using h1,h2,h3⟩
theorem evStep_ins {C : Ctx} {call : CallH} {Y : Yld} {ops : Array Oper} {c : Kinds} {k : Nat} {K : ASt → Prop} {S : ASt} {o : Oper} {t : TypeId} {m kk x : Operand} (ho : ops[k]? = some o) (hc : c.of k = 3) (hg : o.guard = none) (hop : o.op = .insert t m kk x) (hd : o.dst = none)
 (h : evUpd C S none t (S.val m) (S.val kk) (S.val x) K) : evStep C call Y ops c k K S := by
 have ho' : ops.toList[k]? = some o := by simpa using ho
 unfold evStep
 rw [ho']
 simp only [hc]
 unfold evOps
 simp only [hg]
 unfold evOp
 simp only [hop,hd]
 exact h
theorem evStep_range {C : Ctx} {call : CallH} {Y : Yld} {ops : Array Oper} {c : Kinds} {k : Nat} {K : ASt → Prop} {S : ASt} {o : Oper} {t : TypeId} {x : Operand} {d : Nat} (ho : ops[k]? = some o) (hc : c.of k = 3) (hg : o.guard = none) (hop : o.op = .range t x) (hd : o.dst = some d)
 (h : evRangeM C S d t (S.val x) K) : evStep C call Y ops c k K S := by
 have ho' : ops.toList[k]? = some o := by simpa using ho
 unfold evStep
 rw [ho']
 simp only [hc]
 unfold evOps
 simp only [hg]
 unfold evOp
 simp only [hop,hd]
 exact h
def FineQ (q : Qy) : Prop := greatQ q = false ∧ checkQ globB q = 0
theorem pick_kind (wd : Nat) : ∃ d : Nat,d < 3 ∧ (wd : Int).tmod 3 = (d : Int) ∧ (∃ kd : Nat,opersN kd = 1 ∧ ([[.int .i64 9],[.int .i64 12],[.int .i64 13]] : List (List AV))[((d : Nat) : Int).toNat]? = some [.int .i64 kd] ∧ ([[.str (wordB 9)],[.str (wordB 12)],[.str (wordB 13)]] : List (List AV))[((d : Nat) : Int).toNat]? = some [.str (wordB kd)]) ∧ True := by
 have h : wd % 3 = 0 ∨ wd % 3 = 1 ∨ wd % 3 = 2 := by omega
 have e : (wd : Int).tmod 3 = ((wd % 3 : Nat) : Int) := by
  rw [Int.tmod_eq_emod_of_nonneg (by omega)]; omega
 refine ⟨wd % 3,by omega,e,?_,trivial⟩
 rcases h with h | h | h <;> rw [h]
 ·exact ⟨9,rfl,rfl,rfl⟩
 ·exact ⟨12,rfl,rfl,rfl⟩
 ·exact ⟨13,rfl,rfl,rfl⟩
set_option maxRecDepth 100000 in
set_option maxHeartbeats 40000000 in
theorem binding_walk (ka kb kc : Int) (ta tb tc : Bytes) (na nb nc : Int) (la lb lc : List Qy) (sa : szQ (.mk ka ta na la)) (sb : szQ (.mk kb tb nb lb)) (sc : szQ (.mk kc tc nc lc)) (wd : Nat) (hwd : wd < 256) :
 CallsTo C 13 [.agg (cellsA ka ta na la ++ cellsA kb tb nb lb ++ cellsA kc tc nc lc),.int .u8 wd] (fun r => r = .val (.bool true)) := by
 have hga := greatQ_ok _ sa
 have hgb := greatQ_ok _ sb
 have hgc := greatQ_ok _ sc
 refine callsTo_of_evC [2,17] Tryz.func13 rfl rfl rfl ?_
 refine ⟨.plan ⟨[0,1,2,3,4,5],[6,7,8,9,10,11],[],[2]⟩ (.one 0 (.one 1 (.one 2 (.one 3 (.one 4 (.one 5 (.alt 6 (.alt 7 (.alt 8 (.alt 9 (.alt 10 (.alt 11 (.fin) (.stop)) (.stop)) (.stop)) (.stop)) (.alt 8 (.alt 7 (.alt 9 (.alt 10 (.alt 11 (.fin) (.stop)) (.stop)) (.stop)) (.stop)) (.stop))) (.alt 7 (.alt 6 (.alt 8 (.alt 9 (.alt 10 (.alt 11 (.fin) (.stop)) (.stop)) (.stop)) (.stop)) (.alt 8 (.alt 6 (.alt 9 (.alt 10 (.alt 11 (.fin) (.stop)) (.stop)) (.stop)) (.stop)) (.stop))) (.alt 8 (.alt 6 (.alt 7 (.alt 9 (.alt 10 (.alt 11 (.fin) (.stop)) (.stop)) (.stop)) (.stop)) (.alt 7 (.alt 6 (.alt 9 (.alt 10 (.alt 11 (.fin) (.stop)) (.stop)) (.stop)) (.stop)) (.stop))) (.stop)))))))))) (some (mkS 223 0 [(1,.p (.int .u8 wd)),(2,.ptr 2 0),(5,.ptr 5 0),(6,.ptr 6 0),(7,.ptr 7 0)] [(2,mapP (cellsA ka ta na la ++ cellsA kb tb nb lb ++ cellsA kc tc nc lc)),(5,cellsQ ka ta na la),(6,cellsQ kb tb nb lb),(7,cellsQ kc tc nc lc)] [] [])),by kernel_rfl,?_,?_⟩
 ·refine ⟨_,⟨0,rfl,by decide,false,rfl⟩,rfl,?_⟩
  refine ⟨_,rfl,rfl,?_⟩
  refine ⟨_,⟨1,rfl,by decide,false,rfl⟩,rfl,?_⟩
  refine ⟨_,rfl,rfl,?_⟩
  refine ⟨_,⟨2,rfl,by decide,false,rfl⟩,rfl,?_⟩
  refine ⟨_,rfl,rfl,?_⟩
  exact ⟨⟨rfl,⟨⟨rfl,⟨rfl,⟨rfl,⟨rfl,⟨rfl,(weaken_mk rfl ⟨wR,wR,wR,wR,wR,trivial⟩ ⟨hO1 rfl,hO1 rfl,hO1 rfl,hO1 rfl,trivial⟩ trivial trivial)⟩⟩⟩⟩⟩,⟨rfl,⟨rfl,⟨rfl,⟨rfl,⟨rfl,(weaken_mk rfl ⟨wR,wR,wR,wR,wR,trivial⟩ ⟨hO1 rfl,hO1 rfl,hO1 rfl,hO1 rfl,trivial⟩ trivial trivial)⟩⟩⟩⟩⟩⟩⟩,⟨⟨rfl,⟨⟨rfl,⟨rfl,⟨rfl,⟨rfl,⟨rfl,(weaken_mk rfl ⟨wR,wR,wR,wR,wR,trivial⟩ ⟨hO1 rfl,hO1 rfl,hO1 rfl,hO1 rfl,trivial⟩ trivial trivial)⟩⟩⟩⟩⟩,⟨rfl,⟨rfl,⟨rfl,⟨rfl,⟨rfl,(weaken_mk rfl ⟨wR,wR,wR,wR,wR,trivial⟩ ⟨hO1 rfl,hO1 rfl,hO1 rfl,hO1 rfl,trivial⟩ trivial trivial)⟩⟩⟩⟩⟩⟩⟩,⟨rfl,⟨⟨rfl,⟨rfl,⟨rfl,⟨rfl,⟨rfl,(weaken_mk rfl ⟨wR,wR,wR,wR,wR,trivial⟩ ⟨hO1 rfl,hO1 rfl,hO1 rfl,hO1 rfl,trivial⟩ trivial trivial)⟩⟩⟩⟩⟩,⟨rfl,⟨rfl,⟨rfl,⟨rfl,⟨rfl,(weaken_mk rfl ⟨wR,wR,wR,wR,wR,trivial⟩ ⟨hO1 rfl,hO1 rfl,hO1 rfl,hO1 rfl,trivial⟩ trivial trivial)⟩⟩⟩⟩⟩⟩⟩⟩⟩
 refine cutR 223 [(1,.p (.int .u8 wd)),(2,.ptr 2 0),(5,.ptr 5 0),(6,.ptr 6 0),(7,.ptr 7 0)] [(2,mapP (cellsA ka ta na la ++ cellsA kb tb nb lb ++ cellsA kc tc nc lc)),(5,cellsQ ka ta na la),(6,cellsQ kb tb nb lb),(7,cellsQ kc tc nc lc)] rfl ⟨wR,wR,wR,wR,wR,trivial⟩ ⟨hO1 rfl,hO1 rfl,hO1 rfl,hO1 rfl,trivial⟩ ?_
 refine loopR 223 (fun m : Nat => [(1,.p (.int .u8 wd)),(5,.ptr 5 0),(6,.ptr 6 0),(7,.ptr 7 0),(8,.tip 46 9 1 ((([textQ (Qy.mk ka ta na la),textQ (Qy.mk kb tb nb lb),textQ (Qy.mk kc tc nc lc)] : List Bytes).take m).map enc1)),(28,.agg (mapP (cellsA ka ta na la ++ cellsA kb tb nb lb ++ cellsA kc tc nc lc))),(29,.p (.int .i64 m))]) (fun _ => [(5,cellsQ ka ta na la),(6,cellsQ kb tb nb lb),(7,cellsQ kc tc nc lc)])
  (fun m => m ≤ 3 ∧ (0 < m → FineQ (Qy.mk ka ta na la)) ∧ (1 < m → FineQ (Qy.mk kb tb nb lb)) ∧ (2 < m → FineQ (Qy.mk kc tc nc lc))) (fun m => 3 - m) 0 ⟨by omega,fun h => absurd h (by omega),fun h => absurd h (by omega),fun h => absurd h (by omega)⟩ rfl
  ⟨wR,wR,wR,wR,Weak.full_tip _ _ _,wR,wR,trivial⟩ ⟨hO1 rfl,hO1 rfl,hO1 rfl,trivial⟩ ?_
 rintro m ⟨hm3,h0,h1,h2⟩
 refine al_dec (fun hlt => ?_) (fun hge => ?_)
 ·have hm : m = 0 ∨ m = 1 ∨ m = 2 := by omega
  rcases hm with rfl | rfl | rfl
  ·refine ⟨0,rfl,by decide,?_⟩
   refine ⟨_,hga.cut,fun r hr => ?_⟩
   subst hr
   cases hgr : greatQ (Qy.mk ka ta na la) with
   | true =>
     refine ⟨_,awakeL_ok.cut,fun r hr => ?_⟩
     subst hr
     exact rfl
   | false =>
     by_cases hc : checkQ globB (Qy.mk ka ta na la) = 0
     ·obtain ⟨hv,hlen⟩ := small_text2 hgr hc
      have hp := print_ok (Qy.mk ka ta na la) sa (fun _ => ⟨hv,by omega⟩)
      have e : printQ (Qy.mk ka ta na la) = .tup [.str (textQ (Qy.mk ka ta na la)),.int .i64 0] := if_pos hc
      rw [e] at hp
      refine ⟨_,hp.cut,fun r hr => ?_⟩
      subst hr
      refine al_ne (fun h => absurd rfl h) (fun _ => ?_)
      refine ⟨all_enc1 _,all_one rfl,by show (0 + 1) * 16 ≤ 140737488355328; decide,_,rfl,?_⟩
      refine ⟨1,by decide,?_⟩
      exact roundR (1 : Nat) ⟨by omega,fun _ => ⟨hgr,hc⟩,fun h => absurd h (by omega),fun h => absurd h (by omega)⟩ (by show 3 - 1 < 3 - 0; omega) rfl ⟨wR,wR,wR,wR,wR,wR,wR,trivial⟩ ⟨hO1 rfl,hO1 rfl,hO1 rfl,trivial⟩
     ·have hp := print_ok (Qy.mk ka ta na la) sa (fun h => absurd h hc)
      have e : printQ (Qy.mk ka ta na la) = .tup [.str [],.int .i64 (checkQ globB (Qy.mk ka ta na la))] := if_neg hc
      rw [e] at hp
      refine ⟨_,hp.cut,fun r hr => ?_⟩
      subst hr
      refine al_ne (fun _ => ?_) (fun h => absurd h hc)
      refine ⟨_,awakeL_ok.cut,fun r hr => ?_⟩
      subst hr
      exact rfl
  ·refine ⟨1,rfl,by decide,?_⟩
   refine ⟨_,hgb.cut,fun r hr => ?_⟩
   subst hr
   cases hgr : greatQ (Qy.mk kb tb nb lb) with
   | true =>
     refine ⟨_,awakeL_ok.cut,fun r hr => ?_⟩
     subst hr
     exact rfl
   | false =>
     by_cases hc : checkQ globB (Qy.mk kb tb nb lb) = 0
     ·obtain ⟨hv,hlen⟩ := small_text2 hgr hc
      have hp := print_ok (Qy.mk kb tb nb lb) sb (fun _ => ⟨hv,by omega⟩)
      have e : printQ (Qy.mk kb tb nb lb) = .tup [.str (textQ (Qy.mk kb tb nb lb)),.int .i64 0] := if_pos hc
      rw [e] at hp
      refine ⟨_,hp.cut,fun r hr => ?_⟩
      subst hr
      refine al_ne (fun h => absurd rfl h) (fun _ => ?_)
      refine ⟨all_enc1 _,all_one rfl,by show (1 + 1) * 16 ≤ 140737488355328; decide,_,rfl,?_⟩
      refine ⟨2,by decide,?_⟩
      exact roundR (2 : Nat) ⟨by omega,fun _ => h0 (by omega),fun _ => ⟨hgr,hc⟩,fun h => absurd h (by omega)⟩ (by show 3 - 2 < 3 - 1; omega) rfl ⟨wR,wR,wR,wR,wR,wR,wR,trivial⟩ ⟨hO1 rfl,hO1 rfl,hO1 rfl,trivial⟩
     ·have hp := print_ok (Qy.mk kb tb nb lb) sb (fun h => absurd h hc)
      have e : printQ (Qy.mk kb tb nb lb) = .tup [.str [],.int .i64 (checkQ globB (Qy.mk kb tb nb lb))] := if_neg hc
      rw [e] at hp
      refine ⟨_,hp.cut,fun r hr => ?_⟩
      subst hr
      refine al_ne (fun _ => ?_) (fun h => absurd h hc)
      refine ⟨_,awakeL_ok.cut,fun r hr => ?_⟩
      subst hr
      exact rfl
  ·refine ⟨2,rfl,by decide,?_⟩
   refine ⟨_,hgc.cut,fun r hr => ?_⟩
   subst hr
   cases hgr : greatQ (Qy.mk kc tc nc lc) with
   | true =>
     refine ⟨_,awakeL_ok.cut,fun r hr => ?_⟩
     subst hr
     exact rfl
   | false =>
     by_cases hc : checkQ globB (Qy.mk kc tc nc lc) = 0
     ·obtain ⟨hv,hlen⟩ := small_text2 hgr hc
      have hp := print_ok (Qy.mk kc tc nc lc) sc (fun _ => ⟨hv,by omega⟩)
      have e : printQ (Qy.mk kc tc nc lc) = .tup [.str (textQ (Qy.mk kc tc nc lc)),.int .i64 0] := if_pos hc
      rw [e] at hp
      refine ⟨_,hp.cut,fun r hr => ?_⟩
      subst hr
      refine al_ne (fun h => absurd rfl h) (fun _ => ?_)
      refine ⟨all_enc1 _,all_one rfl,by show (2 + 1) * 16 ≤ 140737488355328; decide,_,rfl,?_⟩
      refine ⟨3,by decide,?_⟩
      exact roundR (3 : Nat) ⟨by omega,fun _ => h0 (by omega),fun _ => h1 (by omega),fun _ => ⟨hgr,hc⟩⟩ (by show 3 - 3 < 3 - 2; omega) rfl ⟨wR,wR,wR,wR,wR,wR,wR,trivial⟩ ⟨hO1 rfl,hO1 rfl,hO1 rfl,trivial⟩
     ·have hp := print_ok (Qy.mk kc tc nc lc) sc (fun h => absurd h hc)
      have e : printQ (Qy.mk kc tc nc lc) = .tup [.str [],.int .i64 (checkQ globB (Qy.mk kc tc nc lc))] := if_neg hc
      rw [e] at hp
      refine ⟨_,hp.cut,fun r hr => ?_⟩
      subst hr
      refine al_ne (fun _ => ?_) (fun h => absurd h hc)
      refine ⟨_,awakeL_ok.cut,fun r hr => ?_⟩
      subst hr
      exact rfl
 obtain rfl : m = 3 := by omega
 obtain ⟨ga,ca⟩ := h0 (by omega)
 obtain ⟨gb,cb⟩ := h1 (by omega)
 obtain ⟨gc,cc⟩ := h2 (by omega)
 obtain ⟨va,lla⟩ := small_text2 ga ca
 obtain ⟨vb,llb⟩ := small_text2 gb cb
 obtain ⟨vc,llc⟩ := small_text2 gc cc
 clear h0 h1 h2 hge hm3
 obtain ⟨d,hd,hmod,hk,-⟩ := pick_kind wd
 refine ⟨by decide,(d : Int),hmod,?_⟩
 obtain ⟨kd,hkd,hrow,hword⟩ : ∃ kd : Nat,opersN kd = 1 ∧ ([[.int .i64 9],[.int .i64 12],[.int .i64 13]] : List (List AV))[((d : Nat) : Int).toNat]? = some [.int .i64 kd] ∧ ([[.str (wordB 9)],[.str (wordB 12)],[.str (wordB 13)]] : List (List AV))[((d : Nat) : Int).toNat]? = some [.str (wordB kd)] := hk
 refine ⟨by omega,[.int .i64 kd],hrow,rfl,?_⟩
 refine ⟨by decide,(d : Int),hmod,?_⟩
 refine ⟨by omega,[.str (wordB kd)],hword,rfl,?_⟩
 have B1 := bindP1 va vb vc sa sb sc lla llb llc
 have B2 := bindP2 va vb vc sa sb sc lla llb llc
 have B3 := bindP3 va vb vc sa sb sc lla llb llc
 have B4 := bindP4 va vb vc sa sb sc lla llb llc
 have B5 := bindP5 va vb sa sb lla llb hkd
 have B6 := bindP6 va vb sa sb lla llb hkd
 have B7 := bindP7 va vb vc sa sb sc lla llb llc
 have hwl := wordB_len kd
 generalize textQ (Qy.mk ka ta na la) = T0 at B1 B2 B3 B4 B5 B6 B7 lla ⊢
 generalize textQ (Qy.mk kb tb nb lb) = T1 at B1 B2 B3 B4 B5 B6 B7 llb ⊢
 generalize textQ (Qy.mk kc tc nc lc) = T2 at B1 B2 B3 B4 B7 llc ⊢
 refine cutR 223 (seaB T0 T1 T2 kd) (seaO ka kb kc ta tb tc na nb nc la lb lc kd) rfl ⟨wR,wR,wR,Weak.tip_p _ _ _ _,wR,wR,wR,trivial⟩ ⟨hO1 rfl,hO1 rfl,hO1 rfl,hasO_q rfl (Weak.tip_p _ _ _ _),trivial⟩ ?_
 refine sea_region seaK 223 (seaO ka kb kc ta tb tc na nb nc la lb lc kd) (lookF (seaT ka kb kc ta tb tc na nb nc la lb lc T0 T1 T2 kd ++ seaB T0 T1 T2 kd)) 62 141 GoodP (by decide) ⟨_,rfl⟩ (back_of (by kernel_rfl)) ⟨lookF (seaB T0 T1 T2 kd),rfl,fun d => base_of (tbl := seaT ka kb kc ta tb tc na nb nc la lb lc T0 T1 T2 kd) (by kernel_rfl) d⟩ (src_of (by kernel_rfl)) (quiet_of (by kernel_rfl) ?quiet) (fun T => rfl) (fun d => ?hV) ?hs (end_of (n := 140) (by kernel_rfl)) ?hend ?hlast
 case hV =>
  rcases kill_look (kill_seaT ka kb kc ta tb tc na nb nc la lb lc T0 T1 T2 kd) d with h | h | h
  ·exact .inl h
  ·exact .inr (.inl h)
  ·exact .inr (.inr (by subst h; exact waits_of (j := 140) (by kernel_rfl)))
 case hlast =>
  intro o ho
  obtain rfl := Option.some.inj ho
  exact ⟨196,rfl⟩
 case quiet =>
  refine ⟨⟨rfl,rfl⟩,?_⟩
  refine ⟨⟨rfl,⟨by decide,[.str T0],rfl,rfl,rfl⟩⟩,?_⟩
  refine ⟨⟨rfl,rfl⟩,?_⟩
  refine ⟨⟨rfl,⟨(by simp only [List.length_append,List.length_cons,List.length_nil]; omega),rfl⟩⟩,?_⟩
  refine ⟨⟨rfl,rfl⟩,?_⟩
  refine ⟨⟨rfl,⟨by decide,[.str T1],rfl,rfl,rfl⟩⟩,?_⟩
  refine ⟨⟨rfl,rfl⟩,?_⟩
  refine ⟨⟨rfl,⟨(by simp only [List.length_append,List.length_cons,List.length_nil]; omega),rfl⟩⟩,?_⟩
  refine ⟨⟨rfl,⟨(by simp only [List.length_append,List.length_cons,List.length_nil]; omega),rfl⟩⟩,?_⟩
  refine ⟨⟨rfl,rfl⟩,?_⟩
  refine ⟨⟨rfl,⟨by decide,[.str T2],rfl,rfl,rfl⟩⟩,?_⟩
  refine ⟨⟨rfl,rfl⟩,?_⟩
  refine ⟨⟨rfl,⟨(by simp only [List.length_append,List.length_cons,List.length_nil]; omega),rfl⟩⟩,?_⟩
  refine ⟨⟨rfl,rfl⟩,?_⟩
  refine ⟨⟨rfl,rfl⟩,?_⟩
  refine ⟨⟨rfl,rfl⟩,?_⟩
  refine ⟨⟨rfl,rfl⟩,?_⟩
  refine ⟨⟨rfl,⟨_,(two_ok 10 (Qy.mk ka ta na la) (Qy.mk kb tb nb lb)).cut,fun r hr => by subst hr; rfl⟩⟩,?_⟩
  refine ⟨⟨rfl,rfl⟩,?_⟩
  refine ⟨⟨rfl,⟨_,(two_ok 11 (Qy.mk 10 [] 0 [(Qy.mk ka ta na la),(Qy.mk kb tb nb lb)]) (Qy.mk kc tc nc lc)).cut,fun r hr => by subst hr; rfl⟩⟩,?_⟩
  refine ⟨⟨rfl,rfl⟩,?_⟩
  refine ⟨⟨rfl,⟨by decide,[.str T0],rfl,rfl,rfl⟩⟩,?_⟩
  refine ⟨⟨rfl,rfl⟩,?_⟩
  refine ⟨⟨rfl,⟨(by simp only [List.length_append,List.length_cons,List.length_nil]; omega),rfl⟩⟩,?_⟩
  refine ⟨⟨rfl,rfl⟩,?_⟩
  refine ⟨⟨rfl,⟨by decide,[.str T1],rfl,rfl,rfl⟩⟩,?_⟩
  refine ⟨⟨rfl,rfl⟩,?_⟩
  refine ⟨⟨rfl,⟨(by simp only [List.length_append,List.length_cons,List.length_nil]; omega),rfl⟩⟩,?_⟩
  refine ⟨⟨rfl,⟨(by simp only [List.length_append,List.length_cons,List.length_nil]; omega),rfl⟩⟩,?_⟩
  refine ⟨⟨rfl,rfl⟩,?_⟩
  refine ⟨⟨rfl,⟨by decide,[.str T2],rfl,rfl,rfl⟩⟩,?_⟩
  refine ⟨⟨rfl,rfl⟩,?_⟩
  refine ⟨⟨rfl,⟨(by simp only [List.length_append,List.length_cons,List.length_nil]; omega),rfl⟩⟩,?_⟩
  refine ⟨⟨rfl,rfl⟩,?_⟩
  refine ⟨⟨rfl,rfl⟩,?_⟩
  refine ⟨⟨rfl,rfl⟩,?_⟩
  refine ⟨⟨rfl,rfl⟩,?_⟩
  refine ⟨⟨rfl,rfl⟩,?_⟩
  refine ⟨⟨rfl,⟨_,(two_ok 10 (Qy.mk kb tb nb lb) (Qy.mk kc tc nc lc)).cut,fun r hr => by subst hr; rfl⟩⟩,?_⟩
  refine ⟨⟨rfl,⟨_,(two_ok 11 (Qy.mk ka ta na la) (Qy.mk 10 [] 0 [(Qy.mk kb tb nb lb),(Qy.mk kc tc nc lc)])).cut,fun r hr => by subst hr; rfl⟩⟩,?_⟩
  refine ⟨⟨rfl,rfl⟩,?_⟩
  refine ⟨⟨rfl,⟨by decide,[.str T0],rfl,rfl,rfl⟩⟩,?_⟩
  refine ⟨⟨rfl,rfl⟩,?_⟩
  refine ⟨⟨rfl,⟨(by simp only [List.length_append,List.length_cons,List.length_nil]; omega),rfl⟩⟩,?_⟩
  refine ⟨⟨rfl,rfl⟩,?_⟩
  refine ⟨⟨rfl,⟨by decide,[.str T1],rfl,rfl,rfl⟩⟩,?_⟩
  refine ⟨⟨rfl,rfl⟩,?_⟩
  refine ⟨⟨rfl,⟨(by simp only [List.length_append,List.length_cons,List.length_nil]; omega),rfl⟩⟩,?_⟩
  refine ⟨⟨rfl,⟨(by simp only [List.length_append,List.length_cons,List.length_nil]; omega),rfl⟩⟩,?_⟩
  refine ⟨⟨rfl,rfl⟩,?_⟩
  refine ⟨⟨rfl,⟨by decide,[.str T2],rfl,rfl,rfl⟩⟩,?_⟩
  refine ⟨⟨rfl,rfl⟩,?_⟩
  refine ⟨⟨rfl,⟨(by simp only [List.length_append,List.length_cons,List.length_nil]; omega),rfl⟩⟩,?_⟩
  refine ⟨⟨rfl,rfl⟩,?_⟩
  refine ⟨⟨rfl,rfl⟩,?_⟩
  refine ⟨⟨rfl,rfl⟩,?_⟩
  refine ⟨⟨rfl,rfl⟩,?_⟩
  refine ⟨⟨rfl,⟨_,(two_ok 10 (Qy.mk ka ta na la) (Qy.mk kb tb nb lb)).cut,fun r hr => by subst hr; rfl⟩⟩,?_⟩
  refine ⟨⟨rfl,rfl⟩,?_⟩
  refine ⟨⟨rfl,⟨_,(two_ok 10 (Qy.mk 10 [] 0 [(Qy.mk ka ta na la),(Qy.mk kb tb nb lb)]) (Qy.mk kc tc nc lc)).cut,fun r hr => by subst hr; rfl⟩⟩,?_⟩
  refine ⟨⟨rfl,rfl⟩,?_⟩
  refine ⟨⟨rfl,⟨by decide,[.str T0],rfl,rfl,rfl⟩⟩,?_⟩
  refine ⟨⟨rfl,rfl⟩,?_⟩
  refine ⟨⟨rfl,⟨(by simp only [List.length_append,List.length_cons,List.length_nil]; omega),rfl⟩⟩,?_⟩
  refine ⟨⟨rfl,rfl⟩,?_⟩
  refine ⟨⟨rfl,⟨by decide,[.str T1],rfl,rfl,rfl⟩⟩,?_⟩
  refine ⟨⟨rfl,rfl⟩,?_⟩
  refine ⟨⟨rfl,⟨(by simp only [List.length_append,List.length_cons,List.length_nil]; omega),rfl⟩⟩,?_⟩
  refine ⟨⟨rfl,⟨(by simp only [List.length_append,List.length_cons,List.length_nil]; omega),rfl⟩⟩,?_⟩
  refine ⟨⟨rfl,rfl⟩,?_⟩
  refine ⟨⟨rfl,⟨by decide,[.str T2],rfl,rfl,rfl⟩⟩,?_⟩
  refine ⟨⟨rfl,rfl⟩,?_⟩
  refine ⟨⟨rfl,⟨(by simp only [List.length_append,List.length_cons,List.length_nil]; omega),rfl⟩⟩,?_⟩
  refine ⟨⟨rfl,rfl⟩,?_⟩
  refine ⟨⟨rfl,rfl⟩,?_⟩
  refine ⟨⟨rfl,rfl⟩,?_⟩
  refine ⟨⟨rfl,rfl⟩,?_⟩
  refine ⟨⟨rfl,⟨_,(two_ok 11 (Qy.mk ka ta na la) (Qy.mk kb tb nb lb)).cut,fun r hr => by subst hr; rfl⟩⟩,?_⟩
  refine ⟨⟨rfl,rfl⟩,?_⟩
  refine ⟨⟨rfl,⟨_,(two_ok 11 (Qy.mk 11 [] 0 [(Qy.mk ka ta na la),(Qy.mk kb tb nb lb)]) (Qy.mk kc tc nc lc)).cut,fun r hr => by subst hr; rfl⟩⟩,?_⟩
  refine ⟨⟨rfl,rfl⟩,?_⟩
  refine ⟨⟨rfl,⟨(by simp only [List.length_append,List.length_cons,List.length_nil]; omega),rfl⟩⟩,?_⟩
  refine ⟨⟨rfl,rfl⟩,?_⟩
  refine ⟨⟨rfl,⟨by decide,[.str T0],rfl,rfl,rfl⟩⟩,?_⟩
  refine ⟨⟨rfl,rfl⟩,?_⟩
  refine ⟨⟨rfl,⟨(by simp only [List.length_append,List.length_cons,List.length_nil]; omega),rfl⟩⟩,?_⟩
  refine ⟨⟨rfl,⟨(by simp only [List.length_append,List.length_cons,List.length_nil]; omega),rfl⟩⟩,?_⟩
  refine ⟨⟨rfl,rfl⟩,?_⟩
  refine ⟨⟨rfl,⟨by decide,[.str T1],rfl,rfl,rfl⟩⟩,?_⟩
  refine ⟨⟨rfl,rfl⟩,?_⟩
  refine ⟨⟨rfl,⟨(by simp only [List.length_append,List.length_cons,List.length_nil]; omega),rfl⟩⟩,?_⟩
  refine ⟨⟨rfl,rfl⟩,?_⟩
  refine ⟨⟨rfl,rfl⟩,?_⟩
  refine ⟨⟨rfl,rfl⟩,?_⟩
  refine ⟨⟨rfl,⟨_,(two_ok 10 (oneQ kd (Qy.mk ka ta na la)) (Qy.mk kb tb nb lb)).cut,fun r hr => by subst hr; rfl⟩⟩,?_⟩
  refine ⟨⟨rfl,rfl⟩,?_⟩
  refine ⟨⟨rfl,⟨by decide,[.str T1],rfl,rfl,rfl⟩⟩,?_⟩
  refine ⟨⟨rfl,rfl⟩,?_⟩
  refine ⟨⟨rfl,⟨(by simp only [List.length_append,List.length_cons,List.length_nil]; omega),rfl⟩⟩,?_⟩
  refine ⟨⟨rfl,rfl⟩,?_⟩
  refine ⟨⟨rfl,⟨(by simp only [List.length_append,List.length_cons,List.length_nil]; omega),rfl⟩⟩,?_⟩
  refine ⟨⟨rfl,⟨(by simp only [List.length_append,List.length_cons,List.length_nil]; omega),rfl⟩⟩,?_⟩
  refine ⟨⟨rfl,rfl⟩,?_⟩
  refine ⟨⟨rfl,⟨by decide,[.str T0],rfl,rfl,rfl⟩⟩,?_⟩
  refine ⟨⟨rfl,rfl⟩,?_⟩
  refine ⟨⟨rfl,⟨(by simp only [List.length_append,List.length_cons,List.length_nil]; omega),rfl⟩⟩,?_⟩
  refine ⟨⟨rfl,rfl⟩,?_⟩
  refine ⟨⟨rfl,rfl⟩,?_⟩
  refine ⟨⟨rfl,rfl⟩,?_⟩
  refine ⟨⟨rfl,⟨_,(two_ok 11 (Qy.mk kb tb nb lb) (oneQ kd (Qy.mk ka ta na la))).cut,fun r hr => by subst hr; rfl⟩⟩,?_⟩
  refine ⟨⟨rfl,rfl⟩,?_⟩
  refine ⟨⟨rfl,⟨by decide,[.str T0],rfl,rfl,rfl⟩⟩,?_⟩
  refine ⟨⟨rfl,rfl⟩,?_⟩
  refine ⟨⟨rfl,⟨(by simp only [List.length_append,List.length_cons,List.length_nil]; omega),rfl⟩⟩,?_⟩
  refine ⟨⟨rfl,⟨(by simp only [List.length_append,List.length_cons,List.length_nil]; omega),rfl⟩⟩,?_⟩
  refine ⟨⟨rfl,rfl⟩,?_⟩
  refine ⟨⟨rfl,⟨by decide,[.str T1],rfl,rfl,rfl⟩⟩,?_⟩
  refine ⟨⟨rfl,rfl⟩,?_⟩
  refine ⟨⟨rfl,⟨(by simp only [List.length_append,List.length_cons,List.length_nil]; omega),rfl⟩⟩,?_⟩
  refine ⟨⟨rfl,⟨(by simp only [List.length_append,List.length_cons,List.length_nil]; omega),rfl⟩⟩,?_⟩
  refine ⟨⟨rfl,rfl⟩,?_⟩
  refine ⟨⟨rfl,⟨by decide,[.str T2],rfl,rfl,rfl⟩⟩,?_⟩
  refine ⟨⟨rfl,rfl⟩,?_⟩
  refine ⟨⟨rfl,⟨(by simp only [List.length_append,List.length_cons,List.length_nil]; omega),rfl⟩⟩,?_⟩
  refine ⟨⟨rfl,⟨(by simp only [List.length_append,List.length_cons,List.length_nil]; omega),rfl⟩⟩,?_⟩
  refine ⟨⟨rfl,rfl⟩,?_⟩
  refine ⟨⟨rfl,rfl⟩,?_⟩
  refine ⟨⟨rfl,rfl⟩,?_⟩
  refine ⟨⟨rfl,rfl⟩,?_⟩
  refine ⟨⟨rfl,⟨_,(two_ok 11 (Qy.mk ka ta na la) (Qy.mk kb tb nb lb)).cut,fun r hr => by subst hr; rfl⟩⟩,?_⟩
  refine ⟨⟨rfl,rfl⟩,?_⟩
  refine ⟨⟨rfl,⟨_,(two_ok 10 (Qy.mk 11 [] 0 [(Qy.mk ka ta na la),(Qy.mk kb tb nb lb)]) (Qy.mk kc tc nc lc)).cut,fun r hr => by subst hr; rfl⟩⟩,?_⟩
  refine ⟨⟨rfl,rfl⟩,?_⟩
  exact trivial
 case hs =>
  intro k o ho hc hkl T M Kn hT
  have hk : k ∈ seaK.wild := seaK_of hc
  have hk : k = 0 ∨ k = 21 ∨ k = 42 ∨ k = 63 ∨ k = 84 ∨ k = 100 ∨ k = 116 ∨ k = 139 ∨ k = 141 := by simpa [seaK] using hk
  rcases hk with rfl | rfl | rfl | rfl | rfl | rfl | rfl | rfl | rfl
  ·obtain rfl := Option.some.inj ho
   refine ⟨fun _ hM => ⟨rfl,rfl,fun hK => ?_⟩,fun h => absurd rfl h⟩
   subst hM
   exact hK (fun i => match Nat.beq i 62 with | true => .mapr 62 | false => (T i).kill 62) (fun d hd => by
    have hb : Nat.beq d 62 = false := by
     cases hb : Nat.beq d 62 with
     | false => rfl
     | true => exact absurd (Nat.eq_of_beq_eq_true hb) hd
    show (match Nat.beq d 62 with | true => FV.mapr 62 | false => (T d).kill 62) = _
    rw [hb]) rfl
  ·have ho0 := ho
   obtain rfl := Option.some.inj ho
   refine ⟨fun h => absurd h (by decide),fun _ => ⟨rfl,edge0 (by kernel_rfl),fun l hM hl hK => ?_⟩⟩
   subst hM
   have e0 : T 62 = .mapr 62 := hT 62 (by simp [Op.operands])
   have e1 : T 75 = .p (.str (((((T0 ++ ([32,97,110,100,32] : Bytes)) ++ T1) ++ ([32,111,114,32] : Bytes)) ++ T2))) := hT 75 (by simp [Op.operands])
   have e2 : T 82 = .p (.agg (encQy (Qy.mk 11 [] 0 [(Qy.mk 10 [] 0 [(Qy.mk ka ta na la),(Qy.mk kb tb nb lb)]),(Qy.mk kc tc nc lc)]))) := hT 82 (by simp [Op.operands])
   refine evStep_ins ho0 rfl rfl rfl rfl ?_
   show evUpd _ _ none 47 (T 62) (T 75) (T 82) _
   rw [e0,e1,e2]
   exact ⟨[.str],by kernel_rfl,rfl,good_fits hl,_,updM_toF _ _ _,hK _ (good_upd hl B1)⟩
  ·have ho0 := ho
   obtain rfl := Option.some.inj ho
   refine ⟨fun h => absurd h (by decide),fun _ => ⟨rfl,edge0 (by kernel_rfl),fun l hM hl hK => ?_⟩⟩
   subst hM
   have e0 : T 62 = .mapr 62 := hT 62 (by simp [Op.operands])
   have e1 : T 95 = .p (.str (((((T0 ++ ([32,111,114,32] : Bytes)) ++ T1) ++ ([32,97,110,100,32] : Bytes)) ++ T2))) := hT 95 (by simp [Op.operands])
   have e2 : T 102 = .p (.agg (encQy (Qy.mk 11 [] 0 [(Qy.mk ka ta na la),(Qy.mk 10 [] 0 [(Qy.mk kb tb nb lb),(Qy.mk kc tc nc lc)])]))) := hT 102 (by simp [Op.operands])
   refine evStep_ins ho0 rfl rfl rfl rfl ?_
   show evUpd _ _ none 47 (T 62) (T 95) (T 102) _
   rw [e0,e1,e2]
   exact ⟨[.str],by kernel_rfl,rfl,good_fits hl,_,updM_toF _ _ _,hK _ (good_upd hl B2)⟩
  ·have ho0 := ho
   obtain rfl := Option.some.inj ho
   refine ⟨fun h => absurd h (by decide),fun _ => ⟨rfl,edge0 (by kernel_rfl),fun l hM hl hK => ?_⟩⟩
   subst hM
   have e0 : T 62 = .mapr 62 := hT 62 (by simp [Op.operands])
   have e1 : T 115 = .p (.str (((((T0 ++ ([32,97,110,100,32] : Bytes)) ++ T1) ++ ([32,97,110,100,32] : Bytes)) ++ T2))) := hT 115 (by simp [Op.operands])
   have e2 : T 122 = .p (.agg (encQy (Qy.mk 10 [] 0 [(Qy.mk 10 [] 0 [(Qy.mk ka ta na la),(Qy.mk kb tb nb lb)]),(Qy.mk kc tc nc lc)]))) := hT 122 (by simp [Op.operands])
   refine evStep_ins ho0 rfl rfl rfl rfl ?_
   show evUpd _ _ none 47 (T 62) (T 115) (T 122) _
   rw [e0,e1,e2]
   exact ⟨[.str],by kernel_rfl,rfl,good_fits hl,_,updM_toF _ _ _,hK _ (good_upd hl B3)⟩
  ·have ho0 := ho
   obtain rfl := Option.some.inj ho
   refine ⟨fun h => absurd h (by decide),fun _ => ⟨rfl,edge0 (by kernel_rfl),fun l hM hl hK => ?_⟩⟩
   subst hM
   have e0 : T 62 = .mapr 62 := hT 62 (by simp [Op.operands])
   have e1 : T 135 = .p (.str (((((T0 ++ ([32,111,114,32] : Bytes)) ++ T1) ++ ([32,111,114,32] : Bytes)) ++ T2))) := hT 135 (by simp [Op.operands])
   have e2 : T 142 = .p (.agg (encQy (Qy.mk 11 [] 0 [(Qy.mk 11 [] 0 [(Qy.mk ka ta na la),(Qy.mk kb tb nb lb)]),(Qy.mk kc tc nc lc)]))) := hT 142 (by simp [Op.operands])
   refine evStep_ins ho0 rfl rfl rfl rfl ?_
   show evUpd _ _ none 47 (T 62) (T 135) (T 142) _
   rw [e0,e1,e2]
   exact ⟨[.str],by kernel_rfl,rfl,good_fits hl,_,updM_toF _ _ _,hK _ (good_upd hl B4)⟩
  ·have ho0 := ho
   obtain rfl := Option.some.inj ho
   refine ⟨fun h => absurd h (by decide),fun _ => ⟨rfl,edge0 (by kernel_rfl),fun l hM hl hK => ?_⟩⟩
   subst hM
   have e0 : T 62 = .mapr 62 := hT 62 (by simp [Op.operands])
   have e1 : T 153 = .p (.str ((((((wordB kd) ++ ([32] : Bytes)) ++ T0) ++ ([32,97,110,100,32] : Bytes)) ++ T1))) := hT 153 (by simp [Op.operands])
   have e2 : T 157 = .p (.agg (encQy (Qy.mk 10 [] 0 [(oneQ kd (Qy.mk ka ta na la)),(Qy.mk kb tb nb lb)]))) := hT 157 (by simp [Op.operands])
   refine evStep_ins ho0 rfl rfl rfl rfl ?_
   show evUpd _ _ none 47 (T 62) (T 153) (T 157) _
   rw [e0,e1,e2]
   exact ⟨[.str],by kernel_rfl,rfl,good_fits hl,_,updM_toF _ _ _,hK _ (good_upd hl B5)⟩
  ·have ho0 := ho
   obtain rfl := Option.some.inj ho
   refine ⟨fun h => absurd h (by decide),fun _ => ⟨rfl,edge0 (by kernel_rfl),fun l hM hl hK => ?_⟩⟩
   subst hM
   have e0 : T 62 = .mapr 62 := hT 62 (by simp [Op.operands])
   have e1 : T 168 = .p (.str (((((T1 ++ ([32,111,114,32] : Bytes)) ++ (wordB kd)) ++ ([10] : Bytes)) ++ T0))) := hT 168 (by simp [Op.operands])
   have e2 : T 172 = .p (.agg (encQy (Qy.mk 11 [] 0 [(Qy.mk kb tb nb lb),(oneQ kd (Qy.mk ka ta na la))]))) := hT 172 (by simp [Op.operands])
   refine evStep_ins ho0 rfl rfl rfl rfl ?_
   show evUpd _ _ none 47 (T 62) (T 168) (T 172) _
   rw [e0,e1,e2]
   exact ⟨[.str],by kernel_rfl,rfl,good_fits hl,_,updM_toF _ _ _,hK _ (good_upd hl B6)⟩
  ·have ho0 := ho
   obtain rfl := Option.some.inj ho
   refine ⟨fun h => absurd h (by decide),fun _ => ⟨rfl,edge0 (by kernel_rfl),fun l hM hl hK => ?_⟩⟩
   subst hM
   have e0 : T 62 = .mapr 62 := hT 62 (by simp [Op.operands])
   have e1 : T 187 = .p (.str (((((((([40] : Bytes) ++ T0) ++ ([32,111,114,32] : Bytes)) ++ T1) ++ ([41,97,110,100,40] : Bytes)) ++ T2) ++ ([41] : Bytes)))) := hT 187 (by simp [Op.operands])
   have e2 : T 194 = .p (.agg (encQy (Qy.mk 10 [] 0 [(Qy.mk 11 [] 0 [(Qy.mk ka ta na la),(Qy.mk kb tb nb lb)]),(Qy.mk kc tc nc lc)]))) := hT 194 (by simp [Op.operands])
   refine evStep_ins ho0 rfl rfl rfl rfl ?_
   show evUpd _ _ none 47 (T 62) (T 187) (T 194) _
   rw [e0,e1,e2]
   exact ⟨[.str],by kernel_rfl,rfl,good_fits hl,_,updM_toF _ _ _,hK _ (good_upd hl B7)⟩
  ·exact absurd rfl hkl
 case hend =>
  intro o d0 ho hd0 T l hT hl
  have ho0 := ho
  obtain rfl := Option.some.inj ho
  obtain rfl : 196 = d0 := Option.some.inj hd0
  have e0 : T 195 = .mapr 62 := hT 195 (by decide)
  refine evStep_range ho0 rfl rfl rfl rfl ?_
  show evRangeM _ _ 196 47 (T 195) _
  rw [e0]
  refine ⟨l.map Prod.fst,l.map Prod.snd,⟨⟨toF l,rfl,keys_toF l,vals_toF l⟩⟩,?_⟩
  rw [zip_toF]
  refine loopW 223 0 (fun _ => [(196,.itr 196)]) (fun _ => []) (fun _ => []) [] (fun _ => []) (fun _ => []) (fun x : Option (AV × AV) × List (AV × AV) => [(196,x)]) (fun x => ∀ p,p ∈ x.2 → GoodP p) (fun x => x.2.length) (none,l) hl rfl ⟨wR,trivial⟩ trivial trivial trivial trivial ⟨rfl,trivial⟩ ?_
  rintro ⟨x0,l⟩ hl
  refine ⟨fun h => ?_,fun A p B hAB => ?_⟩
  ·refine ⟨_,awakeL_ok.cut,fun r hr => ?_⟩
   subst hr
   exact rfl
  ·have hAB : l = A ++ p :: B := hAB
   subst hAB
   obtain ⟨s,k,t,n,lq,rfl,hb⟩ := hl p (by simp)
   have hl' : ∀ p,p ∈ A ++ B → GoodP p := fun p hp => hl p (by rcases List.mem_append.1 hp with h | h <;> simp [h])
   have hp := parseQ_ok s (by have := hb.1; omega)
   have hck := check_ok _ hb.2.1
   have hsm := sameQ_ok _ hb.2.1 _ hb.2.1
   rw [sameQ_refl] at hsm
   rw [bind_parse hb] at hp
   by_cases hc : checkQ globB (Qy.mk k t n lq) = 0
   ·rw [if_pos hc] at hp
    rw [hc] at hck
    have hp : CallsTo C 35 [.str s] (fun r => r = .val (.tup [.agg (encQy (.mk k t n lq)),.int .i64 0,.int .i64 0])) := hp
    refine ⟨_,hp.cut,fun r hr => ?_⟩
    subst hr
    refine ⟨none,?_⟩
    refine ⟨_,hck.cut,fun r hr => ?_⟩
    subst hr
    refine al_ne (fun h => absurd rfl h) (fun _ => ?_)
    refine al_eq (fun _ => ?_) (fun h => absurd rfl h)
    refine ⟨_,hsm.cut,fun r hr => ?_⟩
    subst hr
    refine al_not ?_
    exact roundW (some _,A ++ B) hl' (by show (A ++ B).length < (A ++ _ :: B).length; simp) rfl ⟨wR,trivial⟩ trivial trivial trivial trivial ⟨rfl,trivial⟩
   ·rw [if_neg hc] at hp
    have hp : CallsTo C 35 [.str s] (fun r => r = .val (.tup [.agg (encQy zeroQ),.int .i64 0,.int .i64 (checkQ globB (.mk k t n lq))])) := hp
    refine ⟨_,hp.cut,fun r hr => ?_⟩
    subst hr
    refine ⟨none,?_⟩
    refine ⟨_,hck.cut,fun r hr => ?_⟩
    subst hr
    refine al_ne (fun h => absurd rfl h) (fun _ => ?_)
    refine al_eq (fun h => absurd h hc) (fun _ => ?_)
    exact roundW (some _,A ++ B) hl' (by show (A ++ B).length < (A ++ _ :: B).length; simp) rfl ⟨wR,trivial⟩ trivial trivial trivial trivial ⟨rfl,trivial⟩
end Qv

end
