/-
  The table of the functions.
-/
import Derived.Test.YtpcpmplkblbpbaaGreatDoorShB1
import Derived.Test.YtpcpmplkblbpbaaGreatDoorShB2
set_option linter.all false
section
namespace Go.Sh
def pre : List Nat → List Nat → Bool
  | [], _ => true
  | _ :: _, [] => false
  | a :: l, b :: s => Nat.beq a b && pre l s
def ixs : List Nat → List Nat → Nat → Int
  | s, sub, i => match pre sub s with
    | true => Int.ofNat i
    | false => match s with
      | [] => -1
      | _ :: s' => ixs s' sub (i + 1)
def natIndex (args : List SV) (H : Heap) : Option (SV × Heap) :=
  match args with
  | [.str s, .str sub] => match Nat.blt s.length 4294967281 with
    | true => some (.int .i64 (ixs s sub 0), H)
    | false => none
  | _ => none
def natSorted (args : List SV) (H : Heap) : Option (SV × Heap) :=
  match args with
  | [.func 449 [] [.ptr b 0]] => match H.get b with
    | some (.row [.map m] _ true _ _) => match H.get m with
      | some (.map [] _) => some (.nils, H)
      | _ => none
    | _ => none
  | _ => none
def natInsert (args : List SV) (H : Heap) : Option (SV × Heap) :=
  match args with
  | [.slice b 0 n none 3, .int .i64 (.ofNat i), .slice vb 0 1 _ 3] => match H.get b, H.get vb with
    | some (.row cs 51 false false 0), some (.row vs 51 true false 0) => match Nat.beq cs.length (n * 3) && Nat.beq vs.length 3 && Nat.ble i n && Nat.blt 0 n && Nat.blt n 100000 && (cs.all SV.one && vs.all SV.one) && !Nat.beq b vb with
      | true => some (.slice H.next 0 (n + 1) none 3, (H.put b .dead).push (.row (cs.take (i * 3) ++ (vs ++ cs.drop (i * 3))) 51 false false 0))
      | false => none
    | _, _ => none
  | _ => none
noncomputable def tabL : List (Nat × SFun) := [(38, .native natInsert), (406, .native natSorted), (104, .native natIndex), (175, .native natIndex), (124, .dnative fun _ => true), (3, .code c3), (4, .code c4), (5, .code c5), (6, .code c6), (7, .code c7), (8, .code c8), (9, .code c9), (10, .code c10), (11, .code c11), (12, .code c12), (13, .code c13), (14, .code c14), (15, .code c15), (16, .code c16), (17, .code c17), (18, .code c18), (19, .code c19), (20, .code c20), (21, .code c21), (22, .code c22), (23, .code c23), (24, .code c24), (25, .code c25), (26, .code c26), (27, .code c27), (28, .code c28), (29, .code c29), (30, .code c30), (31, .code c31), (32, .code c32), (33, .code c33), (34, .code c34), (35, .code c35), (36, .code c36), (37, .code c37), (39, .code c39), (40, .code c40), (41, .code c41), (42, .code c42), (43, .code c43), (44, .code c44), (45, .code c45), (46, .code c46), (47, .code c47), (48, .code c48), (49, .code c49), (50, .code c50), (51, .code c51), (52, .code c52), (53, .code c53), (54, .code c54), (56, .code c56), (57, .code c57), (58, .code c58), (60, .code c60), (61, .code c61), (62, .code c62), (63, .code c63), (65, .code c65), (68, .code c68), (69, .code c69), (70, .code c70), (72, .code c72), (73, .code c73), (74, .code c74), (75, .code c75), (77, .code c77), (78, .code c78), (79, .code c79), (80, .code c80), (81, .code c81), (82, .code c82), (83, .code c83), (84, .code c84), (85, .code c85), (86, .code c86), (87, .code c87), (91, .code c91), (93, .code c93), (95, .code c95), (96, .code c96), (97, .code c97), (98, .code c98), (99, .code c99), (100, .code c100), (101, .code c101), (103, .code c103), (105, .code c105), (106, .code c106), (107, .code c107), (108, .code c108), (109, .code c109), (110, .code c110), (113, .code c113), (118, .code c118), (120, .code c120), (121, .code c121), (123, .code c123), (125, .code c125), (127, .code c127), (128, .code c128), (130, .code c130), (132, .code c132), (133, .code c133), (138, .code c138), (141, .code c141), (142, .code c142), (143, .code c143), (149, .code c149), (150, .code c150), (151, .code c151), (152, .code c152), (154, .code c154), (155, .code c155), (157, .code c157), (158, .code c158), (159, .code c159), (161, .code c161), (162, .code c162), (164, .code c164), (165, .code c165), (166, .code c166), (168, .code c168), (169, .code c169), (171, .code c171), (180, .code c180), (181, .code c181), (182, .code c182), (190, .code c190), (191, .code c191), (192, .code c192), (193, .code c193), (194, .code c194), (195, .code c195), (197, .code c197), (198, .code c198), (201, .code c201), (202, .code c202), (204, .code c204), (206, .code c206), (208, .code c208), (209, .code c209), (211, .code c211), (212, .code c212), (214, .code c214), (217, .code c217), (226, .code c226), (233, .code c233), (234, .code c234), (236, .code c236), (239, .code c239), (241, .code c241), (242, .code c242), (243, .code c243), (244, .code c244), (252, .code c252), (254, .code c254), (255, .code c255), (266, .code c266), (267, .code c267), (271, .code c271), (272, .code c272), (274, .code c274), (277, .code c277), (279, .code c279), (280, .code c280), (281, .code c281), (292, .code c292), (293, .code c293), (294, .code c294), (296, .code c296), (297, .code c297), (298, .code c298), (299, .code c299), (300, .code c300), (308, .code c308), (312, .code c312), (318, .code c318), (331, .code c331), (332, .code c332), (333, .code c333), (334, .code c334), (335, .code c335), (338, .code c338), (339, .code c339), (340, .code c340), (341, .code c341), (342, .code c342), (343, .code c343), (344, .code c344), (367, .code c367), (368, .code c368), (369, .code c369), (372, .code c372), (373, .code c373), (374, .code c374), (375, .code c375), (400, .code c400), (401, .code c401), (403, .code c403), (407, .code c407), (408, .code c408), (559, .code c559)]
def Tr.ofL {α : Type} : List (Nat × α) → Tr α
  | [] => .leaf
  | (n, a) :: l => (Tr.ofL l).put n a
noncomputable def tabT (f : FuncId) : Option SFun := (Tr.ofL tabL).get f
def h0 : Heap := ⟨1000, .leaf⟩
end Go.Sh
end
