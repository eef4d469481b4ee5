/- The plain statement of TeimsgAll over the printed functions stands in the text that is imported. -/
import Derived.Test.YtmgiolpooamkkaaTeimsgLaws
