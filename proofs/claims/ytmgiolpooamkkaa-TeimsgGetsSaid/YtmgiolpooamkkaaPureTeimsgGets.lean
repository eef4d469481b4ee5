/- The plain statement of TeimsgGets over the printed functions stands in the text that is imported. -/
import Derived.Test.YtmgiolpooamkkaaTeimsgLaws
